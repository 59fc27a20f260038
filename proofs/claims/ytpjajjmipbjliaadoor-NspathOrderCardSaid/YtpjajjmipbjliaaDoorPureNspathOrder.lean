/- Compare of namespace paths returns what the reference says and orders them totally. -/
import Derived.Test.YtpjajjmipbjliaaDoorStNspathOrder
import Derived.Test.YtpjajjmipbjliaaDoorBytes
import Derived.Test.YtpjajjmipbjliaaDoorExtP
import Derived.Test.YtpjajjmipbjliaaDoorExtO
namespace Go.Proofs.YtpjajjmipbjliaaDoor.Pure
open Go.RowKit Go.Proofs.YtpjajjmipbjliaaDoor.PNspathOrder Go.Proofs.YtpjajjmipbjliaaDoorW.PrintWords Go.Proofs.YtpjajjmipbjliaaDoorW.PrintLast Go.Proofs.YtpjajjmipbjliaaDoorW.PrintMore Go.Proofs.YtpjajjmipbjliaaDoor.Plain
open Go.Proofs.YtpjajjmipbjliaaDoor.Ext
set_option linter.unusedVariables false
set_option linter.unusedSimpArgs false
/-! ### bytes of a part of a string -/
theorem bt_extract (s : ByteArray) (a b : Nat) {j : Int} (h0 : 0 ≤ j) (h1 : a + j < b) : bt (s.extract a b) j = bt s (a + j) := by
  rw [bt_B, bt_B, B_extract, List.getD_eq_getElem?_getD, List.getD_eq_getElem?_getD, List.getElem?_drop, List.getElem?_take, if_pos (by omega), show a + j.toNat = ((a : Int) + j).toNat by omega]
theorem bt_app (a b : ByteArray) {j : Int} (h0 : 0 ≤ j) (h1 : j < a.size) : bt (a ++ b) j = bt a j := by
  rw [bt_B, bt_B, B_append, List.getD_eq_getElem?_getD, List.getD_eq_getElem?_getD, List.getElem?_append_left (by rw [B_size]; omega)]
theorem bt_out (s : ByteArray) {j : Int} (h1 : s.size ≤ j) : bt s j = 0 := by
  rw [bt_B, List.getD_eq_getElem?_getD, List.getElem?_eq_none (by rw [B_size]; omega)]; rfl
theorem ex_size (s : ByteArray) (a b : Nat) : (s.extract a b).size = min b s.size - a := by simp
theorem ba_ext {a b : ByteArray} (hs : a.size = b.size) (h : ∀ j : Nat, j < a.size → bt a j = bt b j) : a = b := by
  refine B_inj (List.ext_getElem? fun j => ?_)
  by_cases hj : j < a.size
  · have := h j hj
    rw [bt_B, bt_B, Int.toNat_natCast, List.getD_eq_getElem?_getD, List.getD_eq_getElem?_getD] at this
    have h1 : j < (bytesOf a).length := by rw [B_size]; exact hj
    have h2 : j < (bytesOf b).length := by rw [B_size]; omega
    rw [List.getElem?_eq_getElem h1, List.getElem?_eq_getElem h2] at this ⊢
    simpa using this
  · rw [List.getElem?_eq_none (by rw [B_size]; omega), List.getElem?_eq_none (by rw [B_size]; omega)]
theorem list_eq_iff {a b : ByteArray} : a.toList = b.toList ↔ a = b := by
  rw [B_eq_iff]; exact ⟨B_inj, fun h => by rw [h]⟩
/-- Are the bytes of s from x on, e of them, zero. -/
def zer (s : ByteArray) : Nat → Int → Bool
  | 0, _ => true
  | e + 1, x => decide (bt s x = 0) && zer s e (x + 1)
theorem zer_iff (s : ByteArray) : ∀ (e : Nat) (x : Int), zer s e x = true ↔ ∀ j : Nat, j < e → bt s (x + j) = 0 := by
  intro e
  induction e with
  | zero => intro x; simp [zer]
  | succ e ih =>
    intro x
    simp only [zer, Bool.and_eq_true, decide_eq_true_eq, ih]
    constructor
    · rintro ⟨h0, h⟩ j hj
      cases j with
      | zero => simpa using h0
      | succ j => have := h j (by omega); rw [show x + ((j + 1 : Nat) : Int) = x + 1 + (j : Int) by omega]; exact this
    · intro h
      refine ⟨by simpa using h 0 (by omega), fun j hj => ?_⟩
      have := h (j + 1) (by omega)
      rw [show x + ((j + 1 : Nat) : Int) = x + 1 + (j : Int) by omega] at this; exact this
theorem zeros3 : ∀ c : Fin 4, ∀ j : Fin 4, bt ((⟨#[0, 0, 0]⟩ : ByteArray).extract 0 c) (j : Nat) = 0 ∧ ((⟨#[0, 0, 0]⟩ : ByteArray).extract 0 c).size = c := by decide +kernel
theorem zeros_eq (s : ByteArray) (a : Nat) (c : Int) (h0 : 0 ≤ c) (h3 : c ≤ 3) (hs : a + c ≤ s.size) (b : Nat) (hb : (b : Int) = a + c) : (s.extract a b).toList = ((⟨#[0, 0, 0]⟩ : ByteArray).extract 0 c.toNat).toList ↔ zer s c.toNat a = true := by
  rw [list_eq_iff, zer_iff]
  have hz := fun j : Fin 4 => zeros3 ⟨c.toNat, by omega⟩ j
  have hz0 : ((⟨#[0, 0, 0]⟩ : ByteArray).extract 0 c.toNat).size = c.toNat := (hz 0).2
  constructor
  · intro h j hj
    have := bt_extract s a b (j := (j : Int)) (by omega) (by omega)
    rw [← this, h]; exact (hz ⟨j, by omega⟩).1
  · intro h
    refine ba_ext (by rw [ex_size, hz0]; omega) fun j hj => ?_
    rw [ex_size] at hj
    rw [bt_extract s a b (by omega) (by omega), h j (by omega)]
    exact ((hz ⟨j, by omega⟩).1).symm
/-! ### what is a segment: the two answers are one -/
theorem segFrom_iff (s : ByteArray) : ∀ (e : Nat) (i : Int), segFrom s e i = true ↔ ∀ j : Nat, j < e → segCh (bt s (i + j)) (i + j) = true := by
  intro e
  induction e with
  | zero => intro i; simp [segFrom]
  | succ e ih =>
    intro i
    simp only [segFrom, Bool.and_eq_true, ih]
    constructor
    · rintro ⟨h0, h⟩ j hj
      cases j with
      | zero => simpa using h0
      | succ j => have := h j (by omega); rw [show i + ((j + 1 : Nat) : Int) = i + 1 + (j : Int) by omega]; exact this
    · intro h
      refine ⟨by simpa using h 0 (by omega), fun j hj => ?_⟩
      have := h (j + 1) (by omega)
      rw [show i + ((j + 1 : Nat) : Int) = i + 1 + (j : Int) by omega] at this; exact this
theorem nsSeg_iff (s : ByteArray) : nsSeg s = true ↔ 1 ≤ s.size ∧ s.size ≤ 4 ∧ ∀ j : Nat, j < s.size → segCh (bt s j) j = true := by
  unfold nsSeg
  rw [Bool.and_eq_true, Bool.and_eq_true, decide_eq_true_eq, decide_eq_true_eq, segFrom_iff]
  constructor
  · rintro ⟨h, h1, h2⟩; exact ⟨h1, h2, fun j hj => by simpa using h j hj⟩
  · rintro ⟨h1, h2, h⟩; exact ⟨fun j hj => by simpa using h j hj, h1, h2⟩
theorem segCh_nz {c i : Int} (h : segCh c i = true) : c ≠ 0 := by
  unfold segCh at h; intro h0; subst h0; simp at h
/-! letters, digits -/
def isL (c : Int) : Bool := (decide (97 ≤ c) && decide (c ≤ 122)) || (decide (65 ≤ c) && decide (c ≤ 90)) || decide (c = 95)
def isD (c : Int) : Bool := decide (48 ≤ c) && decide (c ≤ 57)
def isLow (c : Int) : Bool := decide (97 ≤ c) && decide (c ≤ 122)
def allLD (s : ByteArray) : Nat → Int → Bool
  | 0, _ => true
  | e + 1, i => (isL (bt s i) || isD (bt s i)) && allLD s e (i + 1)
def anyLow (s : ByteArray) : Nat → Int → Bool
  | 0, _ => false
  | e + 1, i => isLow (bt s i) || anyLow s e (i + 1)
theorem segCh_pos {c i : Int} (h : 0 < i) : segCh c i = ((isL c || isD c) && !isLow c) := by
  unfold segCh isL isD isLow
  rw [decide_eq_true h]
  by_cases a : 97 ≤ c <;> by_cases b : c ≤ 122 <;> by_cases d : 65 ≤ c <;> by_cases e : c ≤ 90 <;> by_cases f : c = 95 <;> by_cases g : 48 ≤ c <;> by_cases m : c ≤ 57 <;> simp [a, b, d, e, f, g, m] <;> omega
theorem segCh_zero {c : Int} : segCh c 0 = (isL c && !isLow c) := by
  unfold segCh isL isLow
  by_cases a : 97 ≤ c <;> by_cases b : c ≤ 122 <;> by_cases d : 65 ≤ c <;> by_cases e : c ≤ 90 <;> by_cases f : c = 95 <;> simp [a, b, d, e, f] <;> omega
theorem segFrom_pos (s : ByteArray) : ∀ (e : Nat) (i : Int), 0 < i → segFrom s e i = (allLD s e i && !anyLow s e i) := by
  intro e
  induction e with
  | zero => intro i h; rfl
  | succ e ih =>
    intro i h
    simp only [segFrom, allLD, anyLow]
    rw [ih (i + 1) (by omega), segCh_pos h]
    cases (isL (bt s i) || isD (bt s i)) <;> cases isLow (bt s i) <;> cases allLD s e (i + 1) <;> cases anyLow s e (i + 1) <;> rfl
/-! ### encoding a path -/
theorem repB_zero (s : ByteArray) : repB s 0 = ⟨#[]⟩ := rfl
theorem repB_succ (s : ByteArray) (n : Nat) : repB s (n + 1) = s ++ repB s n := by
  apply ByteArray.ext
  apply Array.ext'
  rw [ByteArray.data_append, Array.toList_append]
  rfl
theorem repB_size (s : ByteArray) : ∀ n, (repB s n).size = n * s.size := by
  intro n
  induction n with
  | zero => rw [Nat.zero_mul]; rfl
  | succ n ih => rw [repB_succ, ByteArray.size_append, ih, Nat.succ_mul]; omega
theorem equal_str (l : List ByteArray) (hl : l.length ≤ 10000000) (k : Nat) (hk : l.length < k) : platformfwhelp_Equal_string.f k l l = some true := by
  have loop : ∀ (e : Nat) (i q : Nat), i + e = l.length → e < q → platformfwhelp_Equal_string.l0 q l l i = some true := by
    intro e
    induction e with
    | zero =>
      intro i q hi hq
      obtain ⟨q, rfl⟩ : ∃ m, q = m + 1 := ⟨q - 1, by omega⟩
      simp only [platformfwhelp_Equal_string.l0]; rw [if_neg (by omega)]
    | succ e ih =>
      intro i q hi hq
      obtain ⟨q, rfl⟩ : ∃ m, q = m + 1 := ⟨q - 1, by omega⟩
      simp only [platformfwhelp_Equal_string.l0]
      rw [if_pos (by omega), if_pos (by omega), if_pos (by omega), if_pos trivial, wrap64_id (by omega) (by omega)]
      exact ih (i + 1) q (by omega) (by omega)
  unfold platformfwhelp_Equal_string.f
  rw [if_pos rfl]; exact loop l.length 0 k (by omega) hk
/-! ### which paths are valid -/
def allSeg (l : List ByteArray) : Bool := l.all nsSeg
/-- A valid path. -/
def okPath (root : Bool) (up : Int) (l : List ByteArray) : Bool := decide (0 ≤ up) && decide (up ≤ 32) && (!root || decide (up = 0)) && decide (up + l.length ≤ 32) && (root || decide (0 < up) || decide (0 < l.length)) && allSeg l
theorem any_all (l : List ByteArray) : (!l.any (fun s => !nsSeg s)) = allSeg l := by
  unfold allSeg
  induction l with
  | nil => rfl
  | cons s l ih => rw [List.any_cons, List.all_cons, ← ih]; cases nsSeg s <;> simp
theorem contains_eq (l : List ByteArray) (hl : ∀ s ∈ l, s.size ≤ 140737488351232) (hlen : l.length ≤ 140737488351232) : (slices_ContainsFunc.f l).bind (fun t => some (!t)) = some (allSeg l) := by
  unfold slices_ContainsFunc.f
  rw [if_pos ⟨List.all_eq_true.2 fun s hs => decide_eq_true (hl s hs), hlen⟩, Option.bind_some, any_all]
theorem nsValid_eq (root : Bool) (up : Int) (l : List ByteArray) (hu : -9223372036854775808 ≤ up) (hu2 : up < 9223372036854775808) (hl : ∀ s ∈ l, s.size ≤ 140737488351232) (hlen : l.length ≤ 140737488351232) : nspath_Valid.f root up l = some (okPath root up l) := by
  have hc := contains_eq l hl hlen
  unfold nspath_Valid.f okPath
  by_cases h0 : up < 0
  · rw [if_pos h0, decide_eq_false (show ¬ 0 ≤ up by omega)]; simp
  · rw [if_neg h0, decide_eq_true (show 0 ≤ up by omega)]
    by_cases h1 : up > 32
    · rw [if_pos h1, decide_eq_false (show ¬ up ≤ 32 by omega)]; simp
    · rw [if_neg h1, decide_eq_true (show up ≤ 32 by omega), wrap64_id (a := up + (l.length : Int)) (by omega) (by omega), hc]
      cases root with
      | true =>
        rw [if_pos rfl]
        by_cases h2 : up > 0
        · rw [if_pos h2, decide_eq_false (show ¬ up = 0 by omega)]; simp
        · rw [if_neg h2, decide_eq_true (show up = 0 by omega)]
          by_cases h3 : up + l.length > 32
          · rw [if_pos h3, decide_eq_false (show ¬ up + (l.length : Int) ≤ 32 by omega)]; simp
          · rw [if_neg h3, decide_eq_true (show up + (l.length : Int) ≤ 32 by omega)]; simp
      | false =>
        rw [if_neg (by decide)]
        by_cases h3 : up + l.length > 32
        · rw [if_pos h3, decide_eq_false (show ¬ up + (l.length : Int) ≤ 32 by omega)]; simp
        · rw [if_neg h3, decide_eq_true (show up + (l.length : Int) ≤ 32 by omega)]
          by_cases h4 : up > 0
          · rw [if_pos h4, decide_eq_true (show 0 < up from h4)]; simp
          · rw [if_neg h4, decide_eq_false (show ¬ 0 < up from h4)]
            by_cases h5 : (l.length : Int) > 0
            · rw [if_pos h5, decide_eq_true (show 0 < l.length by omega)]; simp
            · rw [if_neg h5, decide_eq_false (show ¬ 0 < l.length by omega)]; simp
/-! ### layer 2: a path's text -/
theorem awake02 : platformfwlaw02_awake.f 60 = some true := by decide +kernel
theorem awake02_at (k : Nat) (hk : 60 ≤ k) : platformfwlaw02_awake.f k = some true := at_rounds platformfwlaw02_awake.mono hk awake02
theorem same02_refl (root : Bool) (up : Int) (l : List ByteArray) (hl : l.length ≤ 10000000) (k : Nat) (hk : l.length < k) : platformfwlaw02_same.f k root up l root up l = some true := by
  unfold platformfwlaw02_same.f
  rw [if_pos (by simp), if_pos rfl, equal_str l hl k hk, Option.bind_some]
theorem ba_ext' {a b : ByteArray} (h : a.data.toList = b.data.toList) : a = b := by
  apply ByteArray.ext
  apply Array.ext'
  exact h
/-- The strings of l, a dot ahead of each. -/
def dotL : List ByteArray → ByteArray
  | [] => ⟨#[]⟩
  | s :: l => ((⟨#[46]⟩ : ByteArray) ++ s) ++ dotL l
theorem inter_two (sep x y : List UInt8) (l : List (List UInt8)) : sep.intercalate (x :: y :: l) = x ++ (sep ++ sep.intercalate (y :: l)) := by simp [List.intercalate, List.intersperse]
theorem joinB_nil (sep : ByteArray) : joinB [] sep = ⟨#[]⟩ := rfl
theorem joinB_cons : ∀ (l : List ByteArray) (s : ByteArray), joinB (s :: l) ⟨#[46]⟩ = s ++ dotL l := by
  intro l
  induction l with
  | nil =>
    intro s
    apply ba_ext'
    simp [joinB, Lib.join, List.intercalate, dotL]
  | cons t l ih =>
    intro s
    have := ih t
    have e : joinB (s :: t :: l) ⟨#[46]⟩ = s ++ ((⟨#[46]⟩ : ByteArray) ++ joinB (t :: l) ⟨#[46]⟩) := by
      apply ba_ext'
      simp only [joinB, Lib.join, List.map_cons, inter_two, ByteArray.data_append, Array.toList_append]
    rw [e, this]
    simp only [dotL]
    rw [ByteArray.append_assoc]
theorem dotL_size : ∀ (l : List ByteArray), (∀ s ∈ l, s.size ≤ 4) → (dotL l).size ≤ 5 * l.length := by
  intro l
  induction l with
  | nil => intro _; simp [dotL, ByteArray.size]
  | cons s l ih =>
    intro h
    have h1 := ih fun t ht => h t (List.mem_cons_of_mem _ ht)
    have h2 := h s (List.mem_cons_self ..)
    simp only [dotL, List.length_cons]
    rw [ByteArray.size_append, ByteArray.size_append, show (⟨#[46]⟩ : ByteArray).size = 1 from rfl]; omega
theorem joinB_size (l : List ByteArray) (h : ∀ s ∈ l, s.size ≤ 4) : (joinB l ⟨#[46]⟩).size ≤ 5 * l.length := by
  cases l with
  | nil => rw [joinB_nil]; simp [ByteArray.size]
  | cons s l =>
    have h1 := dotL_size l fun t ht => h t (List.mem_cons_of_mem _ ht)
    have h2 := h s (List.mem_cons_self ..)
    rw [joinB_cons, ByteArray.size_append, List.length_cons]; omega
theorem drop_rdOf (l : List ByteArray) (x : Nat) (h : x < l.length) : l.drop x = rdOf ByteArray.empty l x :: l.drop (x + 1) ∧ rdOf ByteArray.empty l x ∈ l := by
  unfold rdOf
  rw [Int.toNat_natCast, List.getD_eq_getElem?_getD, List.getElem?_eq_getElem h]
  exact ⟨List.drop_eq_getElem_cons h, List.getElem_mem _⟩
/-- A path's text. -/
def fmtP (root : Bool) (up : Int) (l : List ByteArray) : ByteArray := (if root = true then ⟨#[92]⟩ else repB ⟨#[94]⟩ up.toNat) ++ joinB l ⟨#[46]⟩
theorem okPath_bd {root : Bool} {up : Int} {l : List ByteArray} (h : okPath root up l = true) : 0 ≤ up ∧ up ≤ 32 ∧ (root = true → up = 0) ∧ up + l.length ≤ 32 ∧ (∀ s ∈ l, 1 ≤ s.size ∧ s.size ≤ 4) ∧ (∀ s ∈ l, nsSeg s = true) ∧ (root = false → 0 < up ∨ 0 < l.length) := by
  unfold okPath at h
  simp only [Bool.and_eq_true, decide_eq_true_eq, Bool.or_eq_true, Bool.not_eq_true'] at h
  refine ⟨h.1.1.1.1.1, h.1.1.1.1.2, fun hr => ?_, h.1.1.2, fun s hs => ?_, fun s hs => List.all_eq_true.1 h.2 s hs, fun hr => ?_⟩
  · rcases h.1.1.1.2 with h' | h'
    · rw [hr] at h'; cases h'
    · exact h'
  · have := (nsSeg_iff s).1 (List.all_eq_true.1 h.2 s hs)
    exact ⟨this.1, this.2.1⟩
  · rcases h.1.2 with (h' | h') | h'
    · rw [hr] at h'; cases h'
    · exact Or.inl h'
    · exact Or.inr h'
/-! ### layer 2: the order of paths -/
/-- A comparison that is a total order. -/
structure Ord3 {α : Type} (c : α → α → Int) : Prop where
  rng : ∀ a b, c a b = -1 ∨ c a b = 0 ∨ c a b = 1
  neg : ∀ a b, c a b = -c b a
  zero : ∀ a b, c a b = 0 ↔ a = b
  trans : ∀ a b d, c a b ≤ 0 → c b d ≤ 0 → c a d ≤ 0
def lex {α : Type} (c : α → α → Int) : List α → List α → Int
  | [], [] => 0
  | [], _ :: _ => -1
  | _ :: _, [] => 1
  | a :: x, b :: y => if c a b = 0 then lex c x y else c a b
theorem lex_ord {α : Type} {c : α → α → Int} (h : Ord3 c) : Ord3 (lex c) := by
  refine ⟨?_, ?_, ?_, ?_⟩
  · intro x
    induction x with
    | nil => intro y; cases y <;> simp [lex]
    | cons a x ih =>
      intro y
      cases y with
      | nil => simp [lex]
      | cons b y =>
        simp only [lex]
        split
        · exact ih y
        · exact h.rng a b
  · intro x
    induction x with
    | nil => intro y; cases y <;> simp [lex]
    | cons a x ih =>
      intro y
      cases y with
      | nil => simp [lex]
      | cons b y =>
        simp only [lex]
        have hn := h.neg a b
        by_cases hc : c a b = 0
        · rw [if_pos hc, if_pos (by omega)]; exact ih y
        · rw [if_neg hc, if_neg (by omega)]; exact hn
  · intro x
    induction x with
    | nil => intro y; cases y <;> simp [lex]
    | cons a x ih =>
      intro y
      cases y with
      | nil => simp [lex]
      | cons b y =>
        simp only [lex]
        by_cases hc : c a b = 0
        · rw [if_pos hc, ih y, List.cons.injEq]
          exact ⟨fun e => ⟨(h.zero a b).1 hc, e⟩, fun e => e.2⟩
        · rw [if_neg hc]
          refine ⟨fun e => absurd e hc, fun e => ?_⟩
          rw [List.cons.injEq] at e
          exact (h.zero a b).2 e.1
  · intro x
    induction x with
    | nil => intro y z _ _; cases z <;> simp [lex]
    | cons a x ih =>
      intro y z h1 h2
      cases y with
      | nil => simp [lex] at h1
      | cons b y =>
        cases z with
        | nil => simp [lex] at h2
        | cons d z =>
          simp only [lex] at h1 h2 ⊢
          have k1 : c a b ≤ 0 := by
            by_cases hc : c a b = 0
            · omega
            · rwa [if_neg hc] at h1
          have k2 : c b d ≤ 0 := by
            by_cases hc : c b d = 0
            · omega
            · rwa [if_neg hc] at h2
          have k3 := h.trans a b d k1 k2
          by_cases hd : c a d = 0
          · rw [if_pos hd]
            have e := (h.zero a d).1 hd
            subst e
            have hn := h.neg a b
            have hab : c a b = 0 := by omega
            have hba : c b a = 0 := by omega
            rw [if_pos hab] at h1
            rw [if_pos hba] at h2
            exact ih y z h1 h2
          · rw [if_neg hd]; exact k3
def both {α β : Type} (c : α → α → Int) (e : β → β → Int) (p q : α × β) : Int := if c p.1 q.1 = 0 then e p.2 q.2 else c p.1 q.1
theorem both_ord {α β : Type} {c : α → α → Int} {e : β → β → Int} (h : Ord3 c) (g : Ord3 e) : Ord3 (both c e) := by
  refine ⟨fun p q => ?_, fun p q => ?_, fun p q => ?_, fun p q r h1 h2 => ?_⟩
  · unfold both; split
    · exact g.rng _ _
    · exact h.rng _ _
  · unfold both
    have hn := h.neg p.1 q.1
    by_cases hc : c p.1 q.1 = 0
    · rw [if_pos hc, if_pos (by omega)]; exact g.neg _ _
    · rw [if_neg hc, if_neg (by omega)]; exact hn
  · unfold both
    by_cases hc : c p.1 q.1 = 0
    · rw [if_pos hc, g.zero]
      refine ⟨fun e => Prod.ext ((h.zero _ _).1 hc) e, fun e => by rw [e]⟩
    · rw [if_neg hc]
      exact ⟨fun e => absurd e hc, fun e => by rw [e]; exact (h.zero _ _).2 rfl⟩
  · unfold both at h1 h2 ⊢
    have k1 : c p.1 q.1 ≤ 0 := by
      by_cases hc : c p.1 q.1 = 0
      · omega
      · rwa [if_neg hc] at h1
    have k2 : c q.1 r.1 ≤ 0 := by
      by_cases hc : c q.1 r.1 = 0
      · omega
      · rwa [if_neg hc] at h2
    have k3 := h.trans _ _ _ k1 k2
    by_cases hd : c p.1 r.1 = 0
    · rw [if_pos hd]
      have e' := (h.zero _ _).1 hd
      have hn := h.neg p.1 q.1
      rw [← e'] at k2 h2
      have hab : c p.1 q.1 = 0 := by omega
      have hba : c q.1 p.1 = 0 := by omega
      rw [if_pos hab] at h1
      rw [if_pos hba] at h2
      exact g.trans _ _ _ h1 h2
    · rw [if_neg hd]; exact k3
def cmpU (a b : UInt8) : Int := if a < b then -1 else if b < a then 1 else 0
theorem cmpU_ord : Ord3 cmpU := by
  refine ⟨fun a b => ?_, fun a b => ?_, fun a b => ?_, fun a b d => ?_⟩
  · unfold cmpU; split
    · exact Or.inl rfl
    · split
      · exact Or.inr (Or.inr rfl)
      · exact Or.inr (Or.inl rfl)
  · unfold cmpU
    by_cases h1 : a < b
    · rw [if_pos h1, if_neg (by rw [UInt8.lt_iff_toNat_lt] at *; omega), if_pos h1]
    · by_cases h2 : b < a
      · rw [if_neg h1, if_pos h2, if_pos h2]; decide
      · rw [if_neg h1, if_neg h2, if_neg h2, if_neg h1]; rfl
  · unfold cmpU
    by_cases h1 : a < b
    · rw [if_pos h1]
      refine ⟨fun e => absurd e (by decide), fun e => ?_⟩
      rw [e, UInt8.lt_iff_toNat_lt] at h1; omega
    · by_cases h2 : b < a
      · rw [if_neg h1, if_pos h2]
        refine ⟨fun e => absurd e (by decide), fun e => ?_⟩
        rw [e, UInt8.lt_iff_toNat_lt] at h2; omega
      · rw [if_neg h1, if_neg h2]
        refine ⟨fun _ => ?_, fun _ => rfl⟩
        rw [UInt8.lt_iff_toNat_lt] at h1 h2
        exact UInt8.toNat_inj.1 (by omega)
  · unfold cmpU
    intro h1 h2
    have k1 : ¬ b < a := by
      intro hb
      rw [if_neg (by rw [UInt8.lt_iff_toNat_lt] at *; omega), if_pos hb] at h1; omega
    have k2 : ¬ d < b := by
      intro hb
      rw [if_neg (by rw [UInt8.lt_iff_toNat_lt] at *; omega), if_pos hb] at h2; omega
    have k3 : ¬ d < a := by rw [UInt8.lt_iff_toNat_lt] at *; omega
    rw [if_neg k3]; split <;> decide
def cmpB (s t : ByteArray) : Int := lex cmpU s.toList t.toList
theorem cmpB_ord : Ord3 cmpB := ⟨fun a b => (lex_ord cmpU_ord).rng _ _, fun a b => (lex_ord cmpU_ord).neg _ _, fun a b => ((lex_ord cmpU_ord).zero _ _).trans list_eq_iff, fun a b d => (lex_ord cmpU_ord).trans _ _ _⟩
theorem less_lex : ∀ (x y : List UInt8), Op.bytesLess x y = decide (lex cmpU x y < 0) := by
  intro x
  induction x with
  | nil => intro y; cases y <;> simp [lex, Op.bytesLess]
  | cons a x ih =>
    intro y
    cases y with
    | nil => simp [lex, Op.bytesLess]
    | cons b y =>
      have hv : lex cmpU (a :: x) (b :: y) = if cmpU a b = 0 then lex cmpU x y else cmpU a b := rfl
      have hb : Op.bytesLess (a :: x) (b :: y) = (decide (a < b) || (a == b && Op.bytesLess x y)) := rfl
      rw [hb, ih y, hv]
      by_cases h1 : a < b
      · have hc : cmpU a b = -1 := by unfold cmpU; rw [if_pos h1]
        rw [hc, if_neg (by decide), decide_eq_true h1]; rfl
      · by_cases h2 : b < a
        · have hc : cmpU a b = 1 := by unfold cmpU; rw [if_neg h1, if_pos h2]
          have hne : (a == b) = false := by
            rw [beq_eq_false_iff_ne]; intro e; rw [e, UInt8.lt_iff_toNat_lt] at h2; omega
          rw [hc, if_neg (by decide), decide_eq_false h1, hne]; rfl
        · have he : a = b := by
            rw [UInt8.lt_iff_toNat_lt] at h1 h2
            exact UInt8.toNat_inj.1 (by omega)
          have hc : cmpU a b = 0 := (cmpU_ord.zero a b).2 he
          rw [hc, if_pos rfl, decide_eq_false h1, he]; simp
theorem cmpStr_eq (s t : ByteArray) : cmp_Compare_string.f s t = some (cmpB s t) := by
  unfold cmp_Compare_string.f
  rw [less_lex, less_lex]
  have h1 := cmpB_ord.rng s t
  have h2 := cmpB_ord.neg s t
  unfold cmpB at *
  rcases h1 with h | h | h
  · rw [if_pos (decide_eq_true (by omega)), h]
  · rw [if_neg (by rw [decide_eq_false (by omega)]; decide), if_neg (by rw [decide_eq_false (by omega)]; decide), h]
  · rw [if_neg (by rw [decide_eq_false (by omega)]; decide), if_pos (decide_eq_true (by omega)), h]
theorem slCompare_loop (l m : List ByteArray) (hl : l.length ≤ 1000000) (hm : m.length ≤ 1000000) : ∀ (e : Nat) (x : Nat) (k : Nat), x + e = l.length → x ≤ m.length → e < k → slices_Compare_string_string.l0 k l m l l.length x = some (lex cmpB (l.drop x) (m.drop x)) := by
  intro e
  induction e with
  | zero =>
    intro x k hx hxm hk
    obtain ⟨k, rfl⟩ : ∃ q, k = q + 1 := ⟨k - 1, by omega⟩
    rw [slices_Compare_string_string.l0, if_neg (by omega), List.drop_of_length_le (show l.length ≤ x by omega)]
    by_cases h1 : (l.length : Int) < (m.length : Int)
    · rw [if_pos h1, (drop_rdOf m x (by omega)).1]; rfl
    · rw [if_neg h1, List.drop_of_length_le (show m.length ≤ x by omega)]; rfl
  | succ e ih =>
    intro x k hx hxm hk
    obtain ⟨k, rfl⟩ : ∃ q, k = q + 1 := ⟨k - 1, by omega⟩
    rw [slices_Compare_string_string.l0, if_pos (by omega), if_pos (by omega), if_pos (by omega), (drop_rdOf l x (by omega)).1]
    by_cases h1 : (x : Int) ≥ (m.length : Int)
    · rw [if_pos h1, List.drop_of_length_le (show m.length ≤ x by omega)]; rfl
    · rw [if_neg h1, if_pos (by omega), cmpStr_eq, Option.bind_some, (drop_rdOf m x (by omega)).1, wrap64_id (a := (x : Int) + 1) (by omega) (by omega)]
      simp only [lex]
      by_cases hc : cmpB (rdOf ByteArray.empty l x) (rdOf ByteArray.empty m x) = 0
      · rw [if_pos hc, if_pos hc]; exact ih (x + 1) k (by omega) (by omega) (by omega)
      · rw [if_neg hc, if_neg hc]
theorem or_eq (x y : Int) (k : Nat) (hk : 4 ≤ k) : cmp_Or_int.f k [x, y] = some (if x = 0 then y else x) := by
  obtain ⟨k, rfl⟩ : ∃ q, k = q + 4 := ⟨k - 4, by omega⟩
  unfold cmp_Or_int.f
  have h0 : rd [x, y] 0 = x := rfl
  have h1 : rd [x, y] 1 = y := rfl
  rw [show k + 4 = (k + 3) + 1 from rfl, cmp_Or_int.l0, if_pos (by simp), if_pos (by omega), if_pos (by simp), h0]
  by_cases hx : x = 0
  · rw [if_pos hx, if_pos hx, show wrap64 (0 + 1) = 1 from wrap64_id (by omega) (by omega), show k + 3 = (k + 2) + 1 from rfl, cmp_Or_int.l0, if_pos (by simp), if_pos (by omega), if_pos (by simp), h1]
    by_cases hy : y = 0
    · rw [if_pos hy, show wrap64 (1 + 1) = 2 from wrap64_id (by omega) (by omega), show k + 2 = (k + 1) + 1 from rfl, cmp_Or_int.l0, if_neg (by simp), hy]
    · rw [if_neg hy]
  · rw [if_neg hx, if_neg hx]
def cmpR (r s : Bool) : Int := if r = s then 0 else if s = true then -1 else 1
theorem cmpR_ord : Ord3 cmpR := by
  refine ⟨?_, ?_, ?_, ?_⟩ <;> decide
theorem cmpI_ord : Ord3 Lib.compareInt := by
  refine ⟨fun a b => ?_, fun a b => ?_, fun a b => ?_, fun a b d => ?_⟩
  · unfold Lib.compareInt; split
    · exact Or.inl rfl
    · split
      · exact Or.inr (Or.inr rfl)
      · exact Or.inr (Or.inl rfl)
  · unfold Lib.compareInt
    split <;> split <;> (try split) <;> omega
  · unfold Lib.compareInt
    split
    · constructor <;> intro h <;> omega
    · split <;> constructor <;> intro h <;> omega
  · unfold Lib.compareInt
    intro h1 h2
    split at h1 <;> split at h2 <;> split <;> (try split at h1) <;> (try split at h2) <;> (try split) <;> omega
def cmpPath : Bool × Int × List ByteArray → Bool × Int × List ByteArray → Int := both cmpR (both Lib.compareInt (lex cmpB))
theorem cmpPath_ord : Ord3 cmpPath := both_ord cmpR_ord (both_ord cmpI_ord (lex_ord cmpB_ord))
theorem nsCompare_eq (r1 : Bool) (u1 : Int) (l1 : List ByteArray) (r2 : Bool) (u2 : Int) (l2 : List ByteArray) (h1 : l1.length ≤ 1000) (h2 : l2.length ≤ 1000) (k : Nat) (hk : 2000 ≤ k) : nspath_Compare.f k r1 u1 l1 r2 u2 l2 = some (cmpPath (r1, u1, l1) (r2, u2, l2)) := by
  have hs : slices_Compare_string_string.f k l1 l2 = some (lex cmpB l1 l2) := by
    unfold slices_Compare_string_string.f
    exact slCompare_loop l1 l2 (by omega) (by omega) l1.length 0 k (by omega) (by omega) (by omega)
  unfold nspath_Compare.f cmpPath both cmp_Compare_int.f
  simp only
  rw [Option.bind_some, hs, Option.bind_some, or_eq _ _ k (by omega), Option.bind_some]
  unfold cmpR
  by_cases hr : r1 = r2
  · rw [if_neg (by simp [hr]), if_pos hr, if_pos rfl]
  · rw [if_pos (by simp [hr]), if_neg hr]
    cases r2 with
    | true => rw [if_pos rfl, if_pos rfl, if_neg (by decide)]
    | false => rw [if_neg (by decide), if_neg (by decide), if_neg (by decide)]
theorem refCompare_loop (r1 r2 : Bool) (u1 u2 : Int) (l m : List ByteArray) (hl : l.length ≤ 1000000) (hm : m.length ≤ 1000000) : ∀ (e : Nat) (x : Nat) (k : Nat), x + e = l.length → x ≤ m.length → 2 * e + 2 < k → platformfwref01_ComparePaths.l0 k x r1 u1 l r2 u2 m = some (lex cmpB (l.drop x) (m.drop x)) := by
  intro e
  induction e with
  | zero =>
    intro x k hx hxm hk
    obtain ⟨k, rfl⟩ : ∃ q, k = q + 2 := ⟨k - 2, by omega⟩
    rw [platformfwref01_ComparePaths.l0, if_neg (by omega), platformfwref01_ComparePaths.j1, if_neg (by decide), List.drop_of_length_le (show l.length ≤ x by omega)]
    by_cases h1 : (l.length : Int) < (m.length : Int)
    · rw [if_pos h1, (drop_rdOf m x (by omega)).1]; rfl
    · rw [if_neg h1, if_neg (by omega), List.drop_of_length_le (show m.length ≤ x by omega)]; rfl
  | succ e ih =>
    intro x k hx hxm hk
    obtain ⟨k, rfl⟩ : ∃ q, k = q + 2 := ⟨k - 2, by omega⟩
    rw [platformfwref01_ComparePaths.l0, if_pos (by omega), platformfwref01_ComparePaths.j1, (drop_rdOf l x (by omega)).1]
    by_cases h1 : (x : Int) < (m.length : Int)
    · have hr := cmpB_ord.rng (rdOf ByteArray.empty l x) (rdOf ByteArray.empty m x)
      have hn := cmpB_ord.neg (rdOf ByteArray.empty l x) (rdOf ByteArray.empty m x)
      rw [if_pos (decide_eq_true h1), if_pos (by omega), if_pos (by omega), if_pos h1, less_lex, less_lex, (drop_rdOf m x (by omega)).1, wrap64_id (a := (x : Int) + 1) (by omega) (by omega)]
      simp only [lex]
      have hi := ih (x + 1) k (by omega) (by omega) (by omega)
      unfold cmpB at hr hn
      rcases hr with h | h | h
      · rw [if_pos (decide_eq_true (by omega)), if_neg (by unfold cmpB; omega)]; unfold cmpB; rw [h]
      · rw [if_neg (by rw [decide_eq_false (by omega)]; decide), if_neg (by rw [decide_eq_false (by omega)]; decide), if_pos (by unfold cmpB; exact h)]; exact hi
      · rw [if_neg (by rw [decide_eq_false (by omega)]; decide), if_pos (decide_eq_true (by omega)), if_neg (by unfold cmpB; omega)]; unfold cmpB; rw [h]
    · rw [if_neg (by rw [decide_eq_false h1]; decide), if_neg (by omega), if_pos (by omega), List.drop_of_length_le (show m.length ≤ x by omega)]; rfl
theorem refCompare_eq (r1 : Bool) (u1 : Int) (l1 : List ByteArray) (r2 : Bool) (u2 : Int) (l2 : List ByteArray) (h1 : l1.length ≤ 900) (h2 : l2.length ≤ 900) (k : Nat) (hk : 2000 ≤ k) : platformfwref01_ComparePaths.f k r1 u1 l1 r2 u2 l2 = some (cmpPath (r1, u1, l1) (r2, u2, l2)) := by
  have hs := refCompare_loop r1 r2 u1 u2 l1 l2 (by omega) (by omega) l1.length 0 k (by omega) (by omega) (by omega)
  unfold platformfwref01_ComparePaths.f cmpPath both
  simp only
  rw [show ((0 : Nat) : Int) = 0 from rfl] at hs
  rw [hs]
  unfold cmpR Lib.compareInt
  by_cases hr : r1 = r2
  · rw [if_neg (by simp [hr]), if_pos hr, if_pos rfl]
    by_cases ha : u1 < u2
    · rw [if_pos ha, if_pos ha, if_neg (by decide)]
    · rw [if_neg ha, if_neg ha]
      by_cases hb : u1 > u2
      · rw [if_pos hb, if_pos hb, if_neg (by decide)]
      · rw [if_neg hb, if_neg hb, if_pos rfl]; rfl
  · rw [if_pos (by simp [hr]), if_neg hr]
    cases r2 with
    | true => rw [if_pos rfl, if_pos rfl, if_neg (by decide)]
    | false => rw [if_neg (by decide), if_neg (by decide), if_neg (by decide)]
theorem equal_any (l m : List ByteArray) (hl : l.length ≤ 1000000) (k : Nat) (hk : l.length < k) : platformfwhelp_Equal_string.f k l m = some (decide (l = m)) := by
  have loop : ∀ (e : Nat) (i q : Nat), l.length = m.length → i + e = l.length → e < q → platformfwhelp_Equal_string.l0 q l m i = some (decide (l.drop i = m.drop i)) := by
    intro e
    induction e with
    | zero =>
      intro i q hlm hi hq
      obtain ⟨q, rfl⟩ : ∃ m, q = m + 1 := ⟨q - 1, by omega⟩
      rw [platformfwhelp_Equal_string.l0, if_neg (by omega), List.drop_of_length_le (show l.length ≤ i by omega), List.drop_of_length_le (show m.length ≤ i by omega)]; simp
    | succ e ih =>
      intro i q hlm hi hq
      obtain ⟨q, rfl⟩ : ∃ m, q = m + 1 := ⟨q - 1, by omega⟩
      rw [platformfwhelp_Equal_string.l0, if_pos (by omega), if_pos (by omega), if_pos (by omega), (drop_rdOf l i (by omega)).1, (drop_rdOf m i (by omega)).1, wrap64_id (by omega) (by omega)]
      by_cases hc : (rdOf ByteArray.empty l i).toList = (rdOf ByteArray.empty m i).toList
      · have := ih (i + 1) q hlm (by omega) (by omega)
        rw [if_pos hc, list_eq_iff.1 hc]
        simp only [List.cons.injEq, true_and]
        exact this
      · rw [if_neg hc]
        congr 1; symm; rw [decide_eq_false_iff_not]
        intro e'
        rw [List.cons.injEq] at e'
        exact hc (by rw [e'.1])
  unfold platformfwhelp_Equal_string.f
  by_cases hlm : l.length = m.length
  · rw [if_pos (by omega)]
    have := loop l.length 0 k hlm (by omega) hk
    simpa using this
  · rw [if_neg (by omega)]
    congr 1; symm; rw [decide_eq_false_iff_not]
    intro e; exact hlm (by rw [e])
theorem same02_eq (r1 : Bool) (u1 : Int) (l1 : List ByteArray) (r2 : Bool) (u2 : Int) (l2 : List ByteArray) (h1 : l1.length ≤ 1000) (k : Nat) (hk : 2000 ≤ k) : platformfwlaw02_same.f k r1 u1 l1 r2 u2 l2 = some (decide ((r1, u1, l1) = (r2, u2, l2))) := by
  unfold platformfwlaw02_same.f
  by_cases hr : r1 = r2
  · rw [if_pos (by simp [hr])]
    by_cases hu : u1 = u2
    · rw [if_pos hu, equal_any l1 l2 (by omega) k (by omega), Option.bind_some]
      simp [hr, hu]
    · rw [if_neg hu]; simp [hu]
  · rw [if_neg (by simp [hr])]; simp [hr]
theorem NspathOrder : St.NspathOrder := by
  intro r1 u1 l1 r2 u2 l2 r3 u3 l3 _ _ _ _ _ _
  refine ⟨3000, ?_⟩
  have skip : platformfwlaw02_NspathOrder.j0 3000 true r1 u1 l1 r2 u2 l2 r3 u3 l3 = some true := by
    rw [show 3000 = 2999 + 1 from rfl, platformfwlaw02_NspathOrder.j0, if_pos rfl, awake02_at 2999 (by omega), Option.bind_some]
  unfold platformfwlaw02_NspathOrder.f
  by_cases h1 : (l1.length : Int) > 100
  · rw [if_pos h1]; exact skip
  rw [if_neg h1]
  by_cases h2 : (l2.length : Int) > 100
  · rw [if_pos h2]; exact skip
  rw [if_neg h2]
  by_cases h3 : (l3.length : Int) > 100
  · rw [decide_eq_true h3]; exact skip
  rw [decide_eq_false h3]
  have ho := cmpPath_ord
  have hn := ho.neg (r1, u1, l1) (r2, u2, l2)
  have hz := ho.zero (r1, u1, l1) (r2, u2, l2)
  have hg := ho.rng (r2, u2, l2) (r1, u1, l1)
  have ht := ho.trans (r1, u1, l1) (r2, u2, l2) (r3, u3, l3)
  have hw : wrap64 (-cmpPath (r2, u2, l2) (r1, u1, l1)) = -cmpPath (r2, u2, l2) (r1, u1, l1) := wrap64_id (by omega) (by omega)
  have hb : ((cmpPath (r1, u1, l1) (r2, u2, l2) == 0) != decide ((r1, u1, l1) = (r2, u2, l2))) = false := by
    by_cases e : (r1, u1, l1) = (r2, u2, l2)
    · rw [decide_eq_true e, hz.2 e]; rfl
    · rw [decide_eq_false e, show (cmpPath (r1, u1, l1) (r2, u2, l2) == 0) = false by rw [beq_eq_false_iff_ne]; exact fun h => e (hz.1 h)]; rfl
  rw [show 3000 = 2999 + 1 from rfl, platformfwlaw02_NspathOrder.j0, if_neg (by decide), nsCompare_eq r1 u1 l1 r2 u2 l2 (by omega) (by omega) 2999 (by omega), Option.bind_some, nsCompare_eq r2 u2 l2 r1 u1 l1 (by omega) (by omega) 2999 (by omega), Option.bind_some, awake02_at 2999 (by omega), Option.bind_some, if_pos rfl, refCompare_eq r1 u1 l1 r2 u2 l2 (by omega) (by omega) 2999 (by omega), Option.bind_some, if_pos rfl, hw, if_pos hn, same02_eq r1 u1 l1 r2 u2 l2 (by omega) 2999 (by omega), Option.bind_some, hb, show 2999 = 2998 + 1 from rfl, platformfwlaw02_NspathOrder.j1, if_neg (by decide)]
  by_cases c1 : cmpPath (r1, u1, l1) (r2, u2, l2) > 0
  · rw [if_pos c1]
  rw [if_neg c1, nsCompare_eq r2 u2 l2 r3 u3 l3 (by omega) (by omega) 2998 (by omega), Option.bind_some]
  by_cases c2 : cmpPath (r2, u2, l2) (r3, u3, l3) > 0
  · rw [if_pos c2]
  rw [if_neg c2, nsCompare_eq r1 u1 l1 r3 u3 l3 (by omega) (by omega) 2998 (by omega), Option.bind_some, decide_eq_true (ht (by omega) (by omega))]
end Go.Proofs.YtpjajjmipbjliaaDoor.Pure
