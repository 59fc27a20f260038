/- What is put into a field comes out again, and nothing else changes: the plain law. -/
import Derived.Test.YtmnmidclaaiffaaStFieldRoundTrip
import Derived.Test.YtmnmidclaaiffaaWMore
import Derived.Laws.BitsLemmas
import Derived.Test.YtmnmidclaaiffaaExt
namespace Go.Proofs.Ytmnmidclaaiffaa.Pure
open Go.RowKit Go.Proofs.Ytmnmidclaaiffaa.PFieldRoundTrip Go.Proofs.YtmnmidclaaiffaaW.PrintWords Go.Proofs.YtmnmidclaaiffaaW.PrintLast Go.Proofs.YtmnmidclaaiffaaW.PrintMore Go.Proofs.Ytmnmidclaaiffaa.Plain
open Go.Proofs.Ytmnmidclaaiffaa.Ext
set_option linter.unusedVariables false
set_option linter.unusedSimpArgs false
/-! ### numbers of a kind -/
theorem wf_u64 {a : Int} (h : (Lit.int .u64 a).wf = true) : 0 ≤ a ∧ a < 18446744073709551616 := by
 simp only [Lit.wf, IntKind.min, IntKind.max, IntKind.signed, IntKind.bits, Bool.and_eq_true, decide_eq_true_eq] at h
 simp at h; omega
theorem wrap64_id {a : Int} (h0 : -9223372036854775808 ≤ a) (h1 : a < 9223372036854775808) : wrap64 a = a := by unfold wrap64; omega
theorem wrap_u64 (n : Int) : IntKind.u64.wrap n = n % 18446744073709551616 := by simp [IntKind.wrap, IntKind.bits, IntKind.signed]
theorem wrap_u64_id {a : Int} (h0 : 0 ≤ a) (h1 : a < 18446744073709551616) : IntKind.u64.wrap a = a := by rw [wrap_u64]; omega
/-! ### byte strings -/
theorem B_size (s : ByteArray) : (bytesOf s).length = s.size := bytesOf_length s
theorem B_nums {xs : List Int} (h : ∀ x ∈ xs, 0 ≤ x ∧ x < 256) : bytesOf (strOfNums xs) = xs := by
 unfold bytesOf; rw [strOfNums_data, List.map_map]
 conv => rhs; rw [← List.map_id xs]
 refine List.map_congr_left fun x hx => ?_
 have := h x hx
 simp; omega
theorem awake11 : platformfwlaw11_awake.f 20 = some true := by decide +kernel
theorem awake11_at (k : Nat) (hk : 20 ≤ k) : platformfwlaw11_awake.f k = some true := at_rounds platformfwlaw11_awake.mono hk awake11
/-! ### layer 11: which fields are valid, and the units of a field -/
/-- A valid field: space s, base b, length len, first bit, bits n, width w, update u. -/
def VF (s b len bit n w u : Int) : Prop :=
 (s = 0 ∨ s = 1 ∨ s = 3) ∧ 1 ≤ len ∧ len ≤ 1048576 ∧ b ≤ 18446744073709551615 - (len - 1) ∧ (s = 3 → b ≤ 255 ∧ b + len ≤ 256 ∧ w = 1) ∧ (w = 1 ∨ w = 2 ∨ w = 4 ∨ w = 8) ∧ b % w = 0 ∧ 0 ≤ u ∧ u ≤ 2 ∧ 0 ≤ bit ∧ bit < 8388608 ∧ 1 ≤ n ∧ n ≤ 256 ∧ ((bit + n - 1) / (8 * w) + 1) * w ≤ len
instance (s b len bit n w u : Int) : Decidable (VF s b len bit n w u) := by unfold VF; infer_instance
theorem tdiv_pos {a b : Int} (h : 0 ≤ a) : Int.tdiv a b = a / b := Int.tdiv_eq_ediv_of_nonneg h
theorem tmod_pos {a b : Int} (h : 0 ≤ a) : Int.tmod a b = a % b := Int.tmod_eq_emod_of_nonneg h
/-- The last test of both: the end of the last unit. -/
theorem end_eq {bit n w len : Int} (hw : w = 1 ∨ w = 2 ∨ w = 4 ∨ w = 8) (hb : 0 ≤ bit) (hb2 : bit ≤ 8388608) (hn : 1 ≤ n) (hn2 : n ≤ 256) :
  wrap64 (8 * w) = 8 * w ∧ (IntKind.u64.wrap (wrap64 ((wrap64 ((wrap64 (Int.tdiv (wrap64 ((wrap64 (bit + n)) - 1)) (wrap64 (8 * w)))) + 1)) * w))) = ((bit + n - 1) / (8 * w) + 1) * w := by
 have h8 : wrap64 (8 * w) = 8 * w := wrap64_id (by omega) (by omega)
 refine ⟨h8, ?_⟩
 rw [h8, wrap64_id (a := bit + n) (by omega) (by omega), wrap64_id (a := bit + n - 1) (by omega) (by omega), tdiv_pos (by omega)]
 rcases hw with rfl | rfl | rfl | rfl
 all_goals
  rw [wrap64_id (a := _ / _) (by omega) (by omega), wrap64_id (a := _ / _ + 1) (by omega) (by omega), wrap64_id (by omega) (by omega), wrap_u64_id (by omega) (by omega)]
theorem end_big {bit n w len : Int} (hw : w = 1 ∨ w = 2 ∨ w = 4 ∨ w = 8) (hb : bit = 8388608) (hn : 1 ≤ n) (hl : len ≤ 1048576) : ¬ ((bit + n - 1) / (8 * w) + 1) * w ≤ len := by
 rcases hw with rfl | rfl | rfl | rfl <;> omega
theorem validRegion_eq {s b len w : Int} (hb : 0 ≤ b) (hb2 : b < 18446744073709551616) (hl : 0 ≤ len) (hl2 : len < 18446744073709551616) (hw : w = 1 ∨ w = 2 ∨ w = 4 ∨ w = 8) (k : Nat) (hk : 3 ≤ k) :
  field_validRegion.f k s b len w = some (decide ((s = 0 ∨ s = 1 ∨ s = 3) ∧ 1 ≤ len ∧ len ≤ 1048576 ∧ b ≤ 18446744073709551615 - (len - 1) ∧ (s = 3 → b ≤ 255 ∧ b + len ≤ 256 ∧ w = 1) ∧ b % w = 0)) := by
 obtain ⟨k, rfl⟩ : ∃ m, k = m + 3 := ⟨k - 3, by omega⟩
 have hu : IntKind.u64.wrap w = w := wrap_u64_id (by omega) (by omega)
 unfold field_validRegion.f
 have bad : field_validRegion.j0 (k + 3) w true s b len = some false := by simp only [field_validRegion.j0]; rw [if_pos trivial]
 by_cases h1 : len < 1
 ·rw [if_pos h1, bad]; congr 1; symm; rw [decide_eq_false_iff_not]; omega
 rw [if_neg h1]
 by_cases h2 : len > 1048576
 ·rw [if_pos h2, bad]; congr 1; symm; rw [decide_eq_false_iff_not]; omega
 rw [if_neg h2, wrap_u64_id (a := len - 1) (by omega) (by omega), wrap_u64_id (a := 18446744073709551615 - b) (by omega) (by omega)]
 by_cases h3 : len - 1 > 18446744073709551615 - b
 ·rw [if_pos h3, bad]; congr 1; symm; rw [decide_eq_false_iff_not]; omega
 rw [if_neg h3, hu, if_neg (by omega), tmod_pos hb]
 simp only [field_validRegion.j0]
 by_cases h4 : b % w = 0
 case neg =>
  rw [if_pos (by simpa using h4)]; congr 1; symm; rw [decide_eq_false_iff_not]; omega
 rw [if_neg (by simp [h4])]
 have fin : ∀ c : Bool, (c = true ↔ (s = 0 ∨ s = 1)) → field_validRegion.j1 (k + 2) w s c s b len = some (decide ((s = 0 ∨ s = 1 ∨ s = 3) ∧ 1 ≤ len ∧ len ≤ 1048576 ∧ b ≤ 18446744073709551615 - (len - 1) ∧ (s = 3 → b ≤ 255 ∧ b + len ≤ 256 ∧ w = 1) ∧ b % w = 0)) := by
  intro c hc
  simp only [field_validRegion.j1]
  by_cases h5 : s = 0 ∨ s = 1
  ·rw [if_pos (hc.2 h5)]; congr 1; symm; rw [decide_eq_true_iff]; omega
  rw [if_neg (fun h => h5 (hc.1 h))]
  by_cases h6 : s = 3
  ·rw [if_pos h6]
   by_cases h7 : w = 1
   ·rw [if_pos h7]
    by_cases h8 : b < 256
    ·rw [if_pos h8, wrap_u64_id (by omega) (by omega)]; congr 1; rw [decide_eq_decide]; omega
    ·rw [if_neg h8]; congr 1; symm; rw [decide_eq_false_iff_not]; omega
   ·rw [if_neg h7]; congr 1; symm; rw [decide_eq_false_iff_not]; omega
  ·rw [if_neg h6]; congr 1; symm; rw [decide_eq_false_iff_not]; omega
 by_cases h5 : s = 0
 ·rw [if_pos h5]; exact fin _ (by simp [h5])
 ·rw [if_neg h5]; exact fin _ (by simp; omega)
theorem fieldValid_eq {s b len bit n w u i d : Int} (hb : 0 ≤ b) (hb2 : b < 18446744073709551616) (hl : 0 ≤ len) (hl2 : len < 18446744073709551616) (k : Nat) (hk : 6 ≤ k) :
  field_Valid.f k s b len bit n w u i d = some (decide (VF s b len bit n w u)) := by
 obtain ⟨k, rfl⟩ : ∃ m, k = m + 6 := ⟨k - 6, by omega⟩
 have key : (w = 1 ∨ w = 2 ∨ w = 4 ∨ w = 8) → field_Valid.j0 (k + 6) s b len bit n w u i d = some (decide (VF s b len bit n w u)) := by
  intro hw
  have bad : ¬ VF s b len bit n w u → field_Valid.j1 (k + 5) true s b len bit n w u i d = some (decide (VF s b len bit n w u)) := by
   intro h; simp only [field_Valid.j1]; rw [if_pos trivial]; congr 1; symm; rw [decide_eq_false_iff_not]; exact h
  simp only [field_Valid.j0]
  rw [validRegion_eq hb hb2 hl hl2 hw (k + 5) (by omega), Option.bind_some]
  by_cases h1 : ((s = 0 ∨ s = 1 ∨ s = 3) ∧ 1 ≤ len ∧ len ≤ 1048576 ∧ b ≤ 18446744073709551615 - (len - 1) ∧ (s = 3 → b ≤ 255 ∧ b + len ≤ 256 ∧ w = 1) ∧ b % w = 0)
  case neg => rw [if_neg (by rw [decide_eq_true_iff]; exact h1)]; exact bad (fun h => h1 (by unfold VF at h; exact ⟨h.1, h.2.1, h.2.2.1, h.2.2.2.1, h.2.2.2.2.1, h.2.2.2.2.2.2.1⟩))
  rw [if_pos (by rw [decide_eq_true_iff]; exact h1)]
  by_cases h2 : u < 0
  ·rw [if_pos h2]; exact bad (fun h => by unfold VF at h; omega)
  rw [if_neg h2]
  by_cases h3 : u > 2
  ·rw [if_pos h3]; exact bad (fun h => by unfold VF at h; omega)
  rw [if_neg h3]
  by_cases h4 : n < 1
  ·rw [if_pos h4]; exact bad (fun h => by unfold VF at h; omega)
  rw [if_neg h4]
  by_cases h5 : n > 256
  ·rw [decide_eq_true h5]; exact bad (fun h => by unfold VF at h; omega)
  rw [decide_eq_false h5]
  simp only [field_Valid.j1]
  rw [if_neg (by decide)]
  by_cases h6 : bit < 0
  ·rw [if_pos h6]; congr 1; symm; rw [decide_eq_false_iff_not]; intro h; unfold VF at h; omega
  rw [if_neg h6]
  by_cases h7 : bit ≥ 8388608
  ·rw [if_pos h7]; congr 1; symm; rw [decide_eq_false_iff_not]; intro h; unfold VF at h; omega
  rw [if_neg h7]
  obtain ⟨e1, e2⟩ := end_eq (len := len) hw (bit := bit) (n := n) (by omega) (by omega) (by omega) (by omega)
  rw [e2, e1, if_neg (by omega)]
  congr 1; rw [decide_eq_decide]; unfold VF
  constructor
  ·intro h; exact ⟨h1.1, h1.2.1, h1.2.2.1, h1.2.2.2.1, h1.2.2.2.2.1, hw, h1.2.2.2.2.2, by omega, by omega, by omega, by omega, by omega, by omega, h⟩
  ·intro h; exact h.2.2.2.2.2.2.2.2.2.2.2.2.2
 unfold field_Valid.f
 by_cases w1 : w = 1
 ·rw [if_pos w1]; exact key (by omega)
 rw [if_neg w1]
 by_cases w2 : w = 2
 ·rw [if_pos w2]; exact key (by omega)
 rw [if_neg w2]
 by_cases w4 : w = 4
 ·rw [if_pos w4]; exact key (by omega)
 rw [if_neg w4]
 by_cases w8 : w = 8
 ·rw [if_pos w8]; exact key (by omega)
 rw [if_neg w8]
 congr 1; symm; rw [decide_eq_false_iff_not]; intro h; unfold VF at h; omega
theorem refValid_eq {s b len bit n w u i d : Int} (hb : 0 ≤ b) (hb2 : b < 18446744073709551616) (hl : 0 ≤ len) (hl2 : len < 18446744073709551616) (k : Nat) (hk : 6 ≤ k) :
  platformfwref09_ValidField.f k s b len bit n w u i d = some (decide (VF s b len bit n w u)) := by
 obtain ⟨k, rfl⟩ : ∃ m, k = m + 6 := ⟨k - 6, by omega⟩
 have no : ¬ VF s b len bit n w u → some false = some (decide (VF s b len bit n w u)) := fun h => by congr 1; symm; rw [decide_eq_false_iff_not]; exact h
 have bad0 : ¬ VF s b len bit n w u → platformfwref09_ValidField.j0 (k + 6) true s b len bit n w u i d s b len = some (decide (VF s b len bit n w u)) := by
  intro h; simp only [platformfwref09_ValidField.j0]; rw [if_pos trivial]; exact no h
 have bad1 : ¬ VF s b len bit n w u → platformfwref09_ValidField.j1 (k + 5) true s b len bit n w u i d s b len = some (decide (VF s b len bit n w u)) := by
  intro h; simp only [platformfwref09_ValidField.j1]; rw [if_pos trivial]; exact no h
 have bad2 : ¬ VF s b len bit n w u → platformfwref09_ValidField.j2 (k + 4) true s b len bit n w u i d s b len = some (decide (VF s b len bit n w u)) := by
  intro h; simp only [platformfwref09_ValidField.j2]; rw [if_pos trivial]; exact no h
 have key2 : (s = 0 ∨ s = 1 ∨ s = 3) → 1 ≤ len → len ≤ 1048576 → b ≤ 18446744073709551615 - (len - 1) → (s = 3 → b ≤ 255 ∧ b + len ≤ 256 ∧ w = 1) → (w = 1 ∨ w = 2 ∨ w = 4 ∨ w = 8) → b % w = 0 → 0 ≤ u →
   platformfwref09_ValidField.j2 (k + 4) (decide (u > 2)) s b len bit n w u i d s b len = some (decide (VF s b len bit n w u)) := by
  intro a1 a2 a3 a4 a5 hw a7 a8
  by_cases h1 : u > 2
  ·rw [decide_eq_true h1]; exact bad2 (fun h => by unfold VF at h; omega)
  rw [decide_eq_false h1]
  simp only [platformfwref09_ValidField.j2]
  rw [if_neg (by decide)]
  by_cases h2 : bit < 0
  ·rw [if_pos h2]; exact no (fun h => by unfold VF at h; omega)
  rw [if_neg h2]
  by_cases h3 : bit > 8388608
  ·rw [if_pos h3]; exact no (fun h => by unfold VF at h; omega)
  rw [if_neg h3]
  by_cases h4 : n < 1
  ·rw [if_pos h4]; exact no (fun h => by unfold VF at h; omega)
  rw [if_neg h4]
  by_cases h5 : n > 256
  ·rw [if_pos h5]; exact no (fun h => by unfold VF at h; omega)
  rw [if_neg h5]
  obtain ⟨e1, e2⟩ := end_eq (len := len) hw (bit := bit) (n := n) (by omega) (by omega) (by omega) (by omega)
  rw [e2, e1, if_neg (by omega)]
  congr 1; rw [decide_eq_decide]; unfold VF
  constructor
  ·intro h
   have : bit ≠ 8388608 := fun hb => end_big hw hb (n := n) (by omega) a3 h
   exact ⟨a1, a2, a3, a4, a5, hw, a7, a8, by omega, by omega, by omega, by omega, by omega, h⟩
  ·intro h; exact h.2.2.2.2.2.2.2.2.2.2.2.2.2
 have key1 : (s = 0 ∨ s = 1 ∨ s = 3) → 1 ≤ len → len ≤ 1048576 → b ≤ 18446744073709551615 - (len - 1) → (s = 3 → b ≤ 255 ∧ b + len ≤ 256 ∧ w = 1) →
   platformfwref09_ValidField.j1 (k + 5) false s b len bit n w u i d s b len = some (decide (VF s b len bit n w u)) := by
  intro a1 a2 a3 a4 a5
  have each : (w = 1 ∨ w = 2 ∨ w = 4 ∨ w = 8) → (if (IntKind.u64.wrap (w)) = 0 then (none) else (if (Int.tmod b (IntKind.u64.wrap (w))) = 0 then (if u < 0 then (platformfwref09_ValidField.j2 (k + 4) true s b len bit n w u i d s b len) else (platformfwref09_ValidField.j2 (k + 4) (decide (u > 2)) s b len bit n w u i d s b len)) else (platformfwref09_ValidField.j2 (k + 4) true s b len bit n w u i d s b len))) = some (decide (VF s b len bit n w u)) := by
   intro hw
   rw [wrap_u64_id (a := w) (by omega) (by omega), if_neg (by omega), tmod_pos hb]
   by_cases h1 : b % w = 0
   ·rw [if_pos h1]
    by_cases h2 : u < 0
    ·rw [if_pos h2]; exact bad2 (fun h => by unfold VF at h; omega)
    ·rw [if_neg h2]; exact key2 a1 a2 a3 a4 a5 hw h1 (by omega)
   ·rw [if_neg h1]; exact bad2 (fun h => by unfold VF at h; exact h1 h.2.2.2.2.2.2.1)
  simp only [platformfwref09_ValidField.j1]
  rw [if_neg (by decide)]
  by_cases w1 : w = 1
  ·rw [if_pos w1]; exact each (by omega)
  rw [if_neg w1]
  by_cases w2 : w = 2
  ·rw [if_pos w2]; exact each (by omega)
  rw [if_neg w2]
  by_cases w4 : w = 4
  ·rw [if_pos w4]; exact each (by omega)
  rw [if_neg w4]
  by_cases w8 : w = 8
  ·rw [if_pos w8]; exact each (by omega)
  rw [if_neg w8]; exact bad2 (fun h => by unfold VF at h; omega)
 have key0 : (s = 0 ∨ s = 1 ∨ s = 3) → (if len < 1 then (platformfwref09_ValidField.j0 (k + 6) true s b len bit n w u i d s b len) else (if len > 1048576 then (platformfwref09_ValidField.j0 (k + 6) true s b len bit n w u i d s b len) else (platformfwref09_ValidField.j0 (k + 6) (decide (b > (IntKind.u64.wrap (18446744073709551615 - (IntKind.u64.wrap (len - 1)))))) s b len bit n w u i d s b len))) = some (decide (VF s b len bit n w u)) := by
  intro a1
  by_cases h1 : len < 1
  ·rw [if_pos h1]; exact bad0 (fun h => by unfold VF at h; omega)
  rw [if_neg h1]
  by_cases h2 : len > 1048576
  ·rw [if_pos h2]; exact bad0 (fun h => by unfold VF at h; omega)
  rw [if_neg h2, wrap_u64_id (a := len - 1) (by omega) (by omega), wrap_u64_id (a := 18446744073709551615 - (len - 1)) (by omega) (by omega)]
  by_cases h3 : b > 18446744073709551615 - (len - 1)
  ·rw [decide_eq_true h3]; exact bad0 (fun h => by unfold VF at h; omega)
  rw [decide_eq_false h3]
  simp only [platformfwref09_ValidField.j0]
  rw [if_neg (by decide)]
  by_cases h4 : s = 3
  ·rw [if_pos h4]
   by_cases h5 : b > 255
   ·rw [if_pos h5]; exact bad1 (fun h => by unfold VF at h; omega)
   rw [if_neg h5, wrap_u64_id (a := b + len) (by omega) (by omega)]
   by_cases h6 : b + len > 256
   ·rw [if_pos h6]; exact bad1 (fun h => by unfold VF at h; omega)
   rw [if_neg h6]
   by_cases h7 : w = 1
   ·rw [show (w != 1) = false by simp [h7]]; exact key1 a1 (by omega) (by omega) (by omega) (by omega)
   ·rw [show (w != 1) = true by simp [h7]]; exact bad1 (fun h => by unfold VF at h; omega)
  ·rw [if_neg h4]; exact key1 a1 (by omega) (by omega) (by omega) (by omega)
 unfold platformfwref09_ValidField.f
 by_cases s0 : s = 0
 ·rw [if_pos s0]; exact key0 (by omega)
 rw [if_neg s0]
 by_cases s1 : s = 1
 ·rw [if_pos s1]; exact key0 (by omega)
 rw [if_neg s1]
 by_cases s3 : s = 3
 ·rw [if_pos s3]; exact key0 (by omega)
 rw [if_neg s3]; exact bad0 (fun h => by unfold VF at h; omega)
/-- The first unit and the number of units. -/
def fstU (bit w : Int) : Int := bit / (8 * w)
def numU (bit n w : Int) : Int := (bit + n - 1) / (8 * w) - bit / (8 * w) + 1
theorem numU_bd {s b len bit n w u : Int} (h : VF s b len bit n w u) : 1 ≤ numU bit n w ∧ numU bit n w ≤ 257 ∧ 0 ≤ fstU bit w ∧ fstU bit w < 1048577 := by
 unfold VF at h; unfold numU fstU
 rcases h.2.2.2.2.2.1 with rfl | rfl | rfl | rfl <;> omega
theorem units_raw {s b len bit n w u : Int} (h : VF s b len bit n w u) : wrap64 (8 * w) = 8 * w ∧ 8 * w ≠ 0 ∧ wrap64 (Int.tdiv bit (wrap64 (8 * w))) = fstU bit w ∧ wrap64 ((wrap64 ((wrap64 (Int.tdiv (wrap64 ((wrap64 (bit + n)) - 1)) (wrap64 (8 * w)))) - (wrap64 (Int.tdiv bit (wrap64 (8 * w)))))) + 1) = numU bit n w := by
 unfold VF at h; unfold numU fstU
 have h8 : wrap64 (8 * w) = 8 * w := wrap64_id (by omega) (by omega)
 refine ⟨h8, by omega, ?_, ?_⟩
 ·rw [h8, tdiv_pos (by omega)]
  rcases h.2.2.2.2.2.1 with rfl | rfl | rfl | rfl <;> exact wrap64_id (by omega) (by omega)
 ·rw [h8, wrap64_id (a := bit + n) (by omega) (by omega), wrap64_id (a := bit + n - 1) (by omega) (by omega), tdiv_pos (by omega), tdiv_pos (by omega)]
  rcases h.2.2.2.2.2.1 with rfl | rfl | rfl | rfl
  all_goals
   rw [wrap64_id (a := (bit + n - 1) / _) (by omega) (by omega), wrap64_id (a := bit / _) (by omega) (by omega), wrap64_id (a := _ / _ - _ / _) (by omega) (by omega), wrap64_id (by omega) (by omega)]
theorem fieldUnits_eq {s b len bit n w u i d : Int} (hb : 0 ≤ b) (hb2 : b < 18446744073709551616) (hl : 0 ≤ len) (hl2 : len < 18446744073709551616) (k : Nat) (hk : 6 ≤ k) :
  field_Units.f k s b len bit n w u i d = some (if VF s b len bit n w u then (fstU bit w, numU bit n w) else (0, 0)) := by
 unfold field_Units.f
 rw [fieldValid_eq hb hb2 hl hl2 k hk, Option.bind_some]
 by_cases h : VF s b len bit n w u
 ·obtain ⟨e1, e2, e3, e4⟩ := units_raw h
  rw [decide_eq_true h, if_pos rfl, if_pos h, e4, e3, e1, if_neg e2]
 ·rw [decide_eq_false h, if_neg (by decide), if_neg h]
/-! ### layer 11: the field that is made out of an arbitrary one -/
theorem mod_ex (a n : Int) (h0 : 0 < n) (h1 : n < 9223372036854775808) : ∃ r, platformfwhelp_Mod.f a n = some r ∧ 0 ≤ r ∧ r < n := by
 unfold platformfwhelp_Mod.f
 have hu : IntKind.u64.wrap n = n := wrap_u64_id (by omega) (by omega)
 have ha : 0 ≤ IntKind.u64.wrap a := by rw [wrap_u64]; omega
 rw [hu, if_neg (by omega), tmod_pos ha]
 have h2 := Int.emod_nonneg (IntKind.u64.wrap a) (show n ≠ 0 by omega)
 have h3 := Int.emod_lt_of_pos (IntKind.u64.wrap a) h0
 rw [wrap64_id (by omega) (by omega)]
 exact ⟨_, rfl, h2, h3⟩
theorem wrap_u64_rng (x : Int) : 0 ≤ IntKind.u64.wrap x ∧ IntKind.u64.wrap x < 18446744073709551616 := by rw [wrap_u64]; omega
theorem spec_ex {s b len bit n w u i d : Int} (hb : 0 ≤ b) (hb2 : b < 18446744073709551616) (hl : 0 ≤ len) (hl2 : len < 18446744073709551616) (k : Nat) (hk : 1 ≤ k) :
  ∃ s' b' len' bit' n' w' u' i' d' : Int, platformfwlaw11_spec.f k s b len bit n w u i d = some (s', b', len', bit', n', w', u', i', d') ∧ 0 ≤ b' ∧ b' < 18446744073709551616 ∧ 0 ≤ len' ∧ len' < 18446744073709551616 := by
 obtain ⟨k, rfl⟩ : ∃ m, k = m + 1 := ⟨k - 1, by omega⟩
 obtain ⟨r1, e1, _, _⟩ := mod_ex i 8 (by omega) (by omega)
 obtain ⟨r2, e2, h2, h2'⟩ := mod_ex w 4 (by omega) (by omega)
 obtain ⟨r3, e3, h3, h3'⟩ := mod_ex s 4 (by omega) (by omega)
 obtain ⟨r4, e4, h4, h4'⟩ := mod_ex bit 400 (by omega) (by omega)
 obtain ⟨r5, e5, h5, h5'⟩ := mod_ex n 100 (by omega) (by omega)
 obtain ⟨r6, e6, h6, h6'⟩ := mod_ex u 3 (by omega) (by omega)
 obtain ⟨r7, e7, h7, h7'⟩ := mod_ex n 9 (by omega) (by omega)
 obtain ⟨r8, e8, h8, h8'⟩ := mod_ex bit 3 (by omega) (by omega)
 have j0 : ∀ x4 y0 y1 y2 y3 y4 y5 y6 y7 y8 : Int, 0 ≤ y1 → y1 < 18446744073709551616 → 0 ≤ y2 → y2 < 18446744073709551616 → ∃ s' b' len' bit' n' w' u' i' d' : Int, platformfwlaw11_spec.j0 (k + 1) x4 s b len bit n w u i d y0 y1 y2 y3 y4 y5 y6 y7 y8 = some (s', b', len', bit', n', w', u', i', d') ∧ 0 ≤ b' ∧ b' < 18446744073709551616 ∧ 0 ≤ len' ∧ len' < 18446744073709551616 := by
  intro x4 y0 y1 y2 y3 y4 y5 y6 y7 y8 a1 a2 a3 a4
  simp only [platformfwlaw11_spec.j0]
  rw [e1]
  simp only [Option.bind_some]
  split <;> split <;> exact ⟨_, _, _, _, _, _, _, _, _, rfl, by omega, by omega, by omega, by omega⟩
 unfold platformfwlaw11_spec.f
 rw [e1]
 simp only [Option.bind_some]
 by_cases c1 : r1 = 7
 ·rw [if_pos c1]; exact ⟨_, _, _, _, _, _, _, _, _, rfl, hb, hb2, hl, hl2⟩
 rw [if_neg c1, e2]
 simp only [Option.bind_some]
 rw [if_pos (wrap_u64_rng r2).1, e3]
 simp only [Option.bind_some]
 rw [if_pos h3, if_pos (by simpa using h3'), e4]
 simp only [Option.bind_some]
 rw [e5]
 simp only [Option.bind_some]
 rw [e6]
 simp only [Option.bind_some]
 rw [e7]
 simp only [Option.bind_some]
 by_cases c2 : r7 = 8
 ·rw [if_pos c2, e8]
  simp only [Option.bind_some]
  exact j0 _ _ _ _ _ _ _ _ _ _ (wrap_u64_rng _).1 (wrap_u64_rng _).2 (wrap_u64_rng _).1 (wrap_u64_rng _).2
 ·rw [if_neg c2]
  exact j0 _ _ _ _ _ _ _ _ _ _ (wrap_u64_rng _).1 (wrap_u64_rng _).2 (wrap_u64_rng _).1 (wrap_u64_rng _).2
theorem refUnits_eq {s b len bit n w u i d : Int} (hb : 0 ≤ b) (hb2 : b < 18446744073709551616) (hl : 0 ≤ len) (hl2 : len < 18446744073709551616) (k : Nat) (hk : 6 ≤ k) :
  platformfwref09_Units.f k s b len bit n w u i d = some (if VF s b len bit n w u then (fstU bit w, numU bit n w) else (0, 0)) := by
 unfold platformfwref09_Units.f
 rw [refValid_eq hb hb2 hl hl2 k hk, Option.bind_some]
 by_cases h : VF s b len bit n w u
 ·obtain ⟨e1, e2, e3, e4⟩ := units_raw h
  rw [decide_eq_true h, if_pos rfl, if_pos h, e4, e3, e1, if_neg e2]
 ·rw [decide_eq_false h, if_neg (by decide), if_neg h]
/-! ### layer 11: where a field's bits lie; loops that put bits into units -/
def uOf (bit w k : Int) : Int := (bit + k) / (8 * w) - bit / (8 * w)
def pOf (bit w k : Int) : Int := (bit + k) % (8 * w)
theorem uOf_bd {s b len bit n w u : Int} (h : VF s b len bit n w u) {k : Int} (h0 : 0 ≤ k) (h1 : k < n) : 0 ≤ uOf bit w k ∧ uOf bit w k < numU bit n w ∧ 0 ≤ pOf bit w k ∧ pOf bit w k < 8 * w ∧ 8 * w ≤ 64 := by
 unfold VF at h; unfold uOf pOf numU
 rcases h.2.2.2.2.2.1 with rfl | rfl | rfl | rfl <;> omega
theorem pos_raw {s b len bit n w u : Int} (h : VF s b len bit n w u) {k : Int} (h0 : 0 ≤ k) (h1 : k < n) : wrap64 (8 * w) = 8 * w ∧ ¬ 8 * w = 0 ∧ wrap64 (bit + k) = bit + k ∧ wrap64 (Int.tdiv (bit + k) (8 * w)) = (bit + k) / (8 * w) ∧ Int.tmod (bit + k) (8 * w) = pOf bit w k ∧ wrap64 (Int.tdiv bit (8 * w)) = fstU bit w ∧ wrap64 ((bit + k) / (8 * w) - fstU bit w) = uOf bit w k := by
 have hb := uOf_bd h h0 h1
 have hn := numU_bd h
 unfold VF at h; unfold uOf pOf numU fstU at *
 refine ⟨wrap64_id (by omega) (by omega), by omega, wrap64_id (by omega) (by omega), ?_, tmod_pos (by omega), ?_, wrap64_id (by omega) (by omega)⟩
 ·rw [tdiv_pos (by omega)]
  rcases h.2.2.2.2.2.1 with rfl | rfl | rfl | rfl <;> exact wrap64_id (by omega) (by omega)
 ·rw [tdiv_pos (by omega)]
  rcases h.2.2.2.2.2.1 with rfl | rfl | rfl | rfl <;> exact wrap64_id (by omega) (by omega)
theorem pos_eq {s b len bit n w u i d : Int} (h : VF s b len bit n w u) {k : Int} (h0 : 0 ≤ k) (h1 : k < n) : field_position.f s b len bit n w u i d k = some (uOf bit w k, pOf bit w k) := by
 obtain ⟨e1, e2, e3, e4, e5, e6, e7⟩ := pos_raw h h0 h1
 unfold field_position.f
 rw [e1, if_neg e2, e3, e4, e5, e6, e7]
/-- Bit after bit goes into its unit: d bits from bit k on; v tells them. -/
def gloop (bit w : Int) (v : Int → Int) : Nat → Int → List Int → List Int
 | 0, _, l => l
 | d + 1, k, l => gloop bit w v d (k + 1) (l.set (uOf bit w k).toNat (Go.bits .or .u64 (rd l (uOf bit w k)) (shl .u64 (v k) (pOf bit w k))))
theorem gloop_length (bit w : Int) (v : Int → Int) : ∀ (d : Nat) (k : Int) (l : List Int), (gloop bit w v d k l).length = l.length
 | 0, _, _ => rfl
 | d + 1, k, l => by rw [gloop, gloop_length bit w v d, List.length_set]
theorem fieldMasks_loop {s b len bit n w u i d : Int} (h : VF s b len bit n w u) : ∀ (e : Nat) (k : Int) (q : Nat) (l : List Int), 0 ≤ k → k + e = n → e < q → (l.length : Int) = numU bit n w →
  field_Masks.l0 q l n k s b len bit n w u i d = some (gloop bit w (fun _ => 1) e k l) := by
 intro e
 induction e with
 | zero =>
  intro k q l h0 hk hq hl
  obtain ⟨q, rfl⟩ : ∃ m, q = m + 1 := ⟨q - 1, by omega⟩
  simp only [field_Masks.l0]; rw [if_neg (by omega)]; rfl
 | succ e ih =>
  intro k q l h0 hk hq hl
  obtain ⟨q, rfl⟩ : ∃ m, q = m + 1 := ⟨q - 1, by omega⟩
  have hb := uOf_bd h h0 (show k < n by omega)
  have hn : n ≤ 256 := by unfold VF at h; omega
  simp only [field_Masks.l0]
  rw [if_pos (by omega), pos_eq h h0 (by omega), Option.bind_some, if_pos hb.1, if_pos (by omega), if_pos hb.2.2.1, wrap64_id (a := k + 1) (by omega) (by omega)]
  exact ih (k + 1) q _ (by omega) (by omega) (by omega) (by rw [List.length_set]; exact hl)
/-- The masks of a field. -/
def masksOf (s b len bit n w u : Int) : List Int := if VF s b len bit n w u then gloop bit w (fun _ => 1) n.toNat 0 (List.replicate (numU bit n w).toNat 0) else []
theorem masksOf_length {s b len bit n w u : Int} (h : VF s b len bit n w u) : ((masksOf s b len bit n w u).length : Int) = numU bit n w := by
 have := numU_bd h
 unfold masksOf; rw [if_pos h, gloop_length, List.length_replicate]; omega
theorem fieldMasks_eq {s b len bit n w u i d : Int} (hb : 0 ≤ b) (hb2 : b < 18446744073709551616) (hl : 0 ≤ len) (hl2 : len < 18446744073709551616) (k : Nat) (hk : 300 ≤ k) :
  field_Masks.f k s b len bit n w u i d = some (masksOf s b len bit n w u) := by
 unfold field_Masks.f masksOf
 rw [fieldUnits_eq hb hb2 hl hl2 k (by omega), Option.bind_some]
 by_cases h : VF s b len bit n w u
 ·have hn := numU_bd h
  have hn2 : 1 ≤ n ∧ n ≤ 256 := by unfold VF at h; omega
  rw [if_pos h, if_pos h]
  simp only
  rw [if_pos (by omega), if_pos (by omega), Option.bind_some, if_pos (by omega)]
  exact fieldMasks_loop h n.toNat 0 k _ (by omega) (by omega) (by omega) (by rw [List.length_replicate]; omega)
 ·rw [if_neg h, if_neg h]; rfl
theorem refMasks_loop {s b len bit n w u i d : Int} (h : VF s b len bit n w u) : ∀ (e : Nat) (k : Int) (q : Nat) (l : List Int), 0 ≤ k → k + e = n → e < q → (l.length : Int) = numU bit n w →
  platformfwref09_Masks.l0 q (fstU bit w) l k s b len bit n w u i d = some (gloop bit w (fun _ => 1) e k l) := by
 intro e
 induction e with
 | zero =>
  intro k q l h0 hk hq hl
  obtain ⟨q, rfl⟩ : ∃ m, q = m + 1 := ⟨q - 1, by omega⟩
  simp only [platformfwref09_Masks.l0]; rw [if_neg (by omega)]; rfl
 | succ e ih =>
  intro k q l h0 hk hq hl
  obtain ⟨q, rfl⟩ : ∃ m, q = m + 1 := ⟨q - 1, by omega⟩
  have hb := uOf_bd h h0 (show k < n by omega)
  have hn : n ≤ 256 := by unfold VF at h; omega
  obtain ⟨e1, e2, e3, e4, e5, e6, e7⟩ := pos_raw h h0 (show k < n by omega)
  simp only [platformfwref09_Masks.l0]
  rw [if_pos (by omega), e1, if_neg e2, e3, e4, e5, e7, if_pos hb.1, if_pos (by omega), wrap_u64_id (a := pOf bit w k) (by omega) (by omega), if_pos hb.2.2.1, wrap64_id (a := k + 1) (by omega) (by omega)]
  exact ih (k + 1) q _ (by omega) (by omega) (by omega) (by rw [List.length_set]; exact hl)
theorem refMasks_eq {s b len bit n w u i d : Int} (hb : 0 ≤ b) (hb2 : b < 18446744073709551616) (hl : 0 ≤ len) (hl2 : len < 18446744073709551616) (k : Nat) (hk : 300 ≤ k) :
  platformfwref09_Masks.f k s b len bit n w u i d = some (masksOf s b len bit n w u) := by
 unfold platformfwref09_Masks.f masksOf
 rw [refUnits_eq hb hb2 hl hl2 k (by omega), Option.bind_some]
 by_cases h : VF s b len bit n w u
 ·have hn := numU_bd h
  have hn2 : 1 ≤ n ∧ n ≤ 256 := by unfold VF at h; omega
  rw [if_pos h, if_pos h]
  simp only
  rw [if_pos (by omega), if_pos (by omega), Option.bind_some, if_pos (by omega)]
  exact refMasks_loop h n.toNat 0 k _ (by omega) (by omega) (by omega) (by rw [List.length_replicate]; omega)
 ·rw [if_neg h, if_neg h]; rfl
def fullW (w : Int) : Int := shr .u64 18446744073709551615 (wrap64 (64 - (wrap64 (8 * w))))
theorem full_eq {s b len bit n w u i d : Int} (h : VF s b len bit n w u) : field_full.f s b len bit n w u i d = some (fullW w) ∧ platformfwref09_Ones.f w = some (fullW w) := by
 have hw : w = 1 ∨ w = 2 ∨ w = 4 ∨ w = 8 := by unfold VF at h; exact h.2.2.2.2.2.1
 unfold field_full.f platformfwref09_Ones.f fullW
 have e1 : wrap64 (8 * w) = 8 * w := wrap64_id (by omega) (by omega)
 have e2 : wrap64 (64 - 8 * w) = 64 - 8 * w := wrap64_id (by omega) (by omega)
 rw [e1, e2, wrap_u64_id (a := 64 - 8 * w) (by omega) (by omega), if_pos (by omega)]
 exact ⟨rfl, rfl⟩
/-! ### bits of whole numbers -/
/-- Bit j of x, told in 64 bits. -/
def B (x : Int) (j : Nat) : Bool := (BitVec.ofInt 64 x).getLsbD j
theorem V_back (v : BitVec 64) : BitVec.ofInt 64 (IntKind.u64.wrap (v.toNat : Int)) = v := by
 have := v.isLt
 rw [wrap_u64_id (by omega) (by omega), BitVec.ofInt_natCast, BitVec.ofNat_toNat, BitVec.setWidth_eq]
theorem B_or (x y : Int) (j : Nat) : B (Go.bits .or .u64 x y) j = (B x j || B y j) := by
 unfold B
 rw [show BitVec.ofInt 64 (Go.bits .or .u64 x y) = BitVec.ofInt 64 x ||| BitVec.ofInt 64 y from V_back _, BitVec.getLsbD_or]
theorem B_and (x y : Int) (j : Nat) : B (Go.bits .and .u64 x y) j = (B x j && B y j) := by
 unfold B
 rw [show BitVec.ofInt 64 (Go.bits .and .u64 x y) = BitVec.ofInt 64 x &&& BitVec.ofInt 64 y from V_back _, BitVec.getLsbD_and]
theorem B_xor (x y : Int) (j : Nat) : B (Go.bits .xor .u64 x y) j = (B x j != B y j) := by
 unfold B
 rw [show BitVec.ofInt 64 (Go.bits .xor .u64 x y) = BitVec.ofInt 64 x ^^^ BitVec.ofInt 64 y from V_back _, BitVec.getLsbD_xor]
theorem B_andNot (x y : Int) (j : Nat) (hj : j < 64) : B (Go.bits .andNot .u64 x y) j = (B x j && !B y j) := by
 unfold B
 rw [show BitVec.ofInt 64 (Go.bits .andNot .u64 x y) = BitVec.ofInt 64 x &&& ~~~ BitVec.ofInt 64 y from V_back _, BitVec.getLsbD_and, BitVec.getLsbD_not]
 simp [hj]
theorem B_none (op : BinOp) (x y : Int) (h : ∀ j, j < 64 → B (Go.bits op .u64 x y) j = false) : Go.bits op .u64 x y = 0 := by
 have e : ∃ v : BitVec 64, Go.bits op .u64 x y = IntKind.u64.wrap (v.toNat : Int) := ⟨_, rfl⟩
 obtain ⟨v, hv⟩ := e
 have : v = 0#64 := by
  apply BitVec.eq_of_getLsbD_eq
  intro j hj
  have := h j hj
  unfold B at this
  rw [hv, V_back] at this
  rw [this]; simp
 rw [hv, this]; decide
theorem bits_rng (op : BinOp) (x y : Int) : 0 ≤ Go.bits op .u64 x y ∧ Go.bits op .u64 x y < 18446744073709551616 := wrap_u64_rng _
theorem B_zero (j : Nat) : B 0 j = false := by unfold B; rw [show BitVec.ofInt 64 0 = 0#64 by decide]; simp
theorem B_nat (m j : Nat) (hj : j < 64) : B (m : Int) j = m.testBit j := by
 unfold B
 rw [BitVec.ofInt_natCast, BitVec.getLsbD_ofNat]; simp [hj]
theorem B_shl {v p : Int} (hv : v = 0 ∨ v = 1) (h0 : 0 ≤ p) (h1 : p < 64) (j : Nat) (hj : j < 64) : B (shl .u64 v p) j = (decide (v = 1) && decide ((j : Int) = p)) := by
 obtain ⟨q, rfl⟩ := Int.eq_ofNat_of_zero_le h0
 have hq : q < 64 := by omega
 rcases hv with rfl | rfl
 ·rw [show shl .u64 0 (q : Int) = 0 by unfold shl; rw [Int.zero_mul]; decide, B_zero]; simp
 ·have hlt : (2 : Nat) ^ q < 18446744073709551616 := Nat.lt_of_lt_of_eq (Nat.pow_lt_pow_right (by decide) hq) (by decide)
  have e : shl .u64 1 (q : Int) = ((2 ^ q : Nat) : Int) := by
   unfold shl
   rw [Int.toNat_natCast, show min q IntKind.u64.bits = q by simp only [IntKind.bits]; omega, Int.one_mul]
   have hc : (2 : Int) ^ q = ((2 ^ q : Nat) : Int) := by rw [Int.natCast_pow]; rfl
   rw [hc]
   generalize (2 : Nat) ^ q = m at hlt
   exact wrap_u64_id (by omega) (by omega)
  rw [e, B_nat _ _ hj, Nat.testBit_two_pow]
  simp
  constructor <;> intro h <;> omega
theorem and_one (x : Int) : Go.bits .and .u64 x 1 = 0 ∨ Go.bits .and .u64 x 1 = 1 := by
 unfold Go.bits
 simp only [IntKind.bits]
 have h : ∀ b : BitVec 64, b &&& BitVec.ofInt 64 1 = 0#64 ∨ b &&& BitVec.ofInt 64 1 = 1#64 := by
  intro b
  rw [show BitVec.ofInt 64 1 = 1#64 by decide]
  rcases Nat.mod_two_eq_zero_or_one b.toNat with h | h
  ·left; apply BitVec.eq_of_toNat_eq; rw [BitVec.toNat_and]; show b.toNat &&& 1 = 0; rw [Nat.and_one_is_mod, h]
  ·right; apply BitVec.eq_of_toNat_eq; rw [BitVec.toNat_and]; show b.toNat &&& 1 = 1; rw [Nat.and_one_is_mod, h]
 rcases h (BitVec.ofInt 64 x) with h | h
 ·left; exact (congrArg (fun b : BitVec 64 => IntKind.u64.wrap (b.toNat : Int)) h).trans (by decide)
 ·right; exact (congrArg (fun b : BitVec 64 => IntKind.u64.wrap (b.toNat : Int)) h).trans (by decide)
theorem bit_of {x p : Int} (hx : 0 ≤ x) (hx2 : x < 18446744073709551616) (h0 : 0 ≤ p) (h1 : p < 64) : Go.bits .and .u64 (shr .u64 x p) 1 = if B x p.toNat then 1 else 0 := by
 obtain ⟨q, rfl⟩ := Int.eq_ofNat_of_zero_le h0
 obtain ⟨m, rfl⟩ := Int.eq_ofNat_of_zero_le hx
 rw [Int.toNat_natCast, B_nat _ _ (by omega)]
 have e : shr .u64 (m : Int) (q : Int) = ((m >>> q : Nat) : Int) := by
  unfold shr
  rw [Int.toNat_natCast, show min q IntKind.u64.bits = q by simp only [IntKind.bits]; omega, Nat.shiftRight_eq_div_pow, Int.natCast_ediv, Int.natCast_pow]
  rfl
 rw [e]
 have hb : (Go.bits .and .u64 ((m >>> q : Nat) : Int) 1 = 1) ↔ m.testBit q = true := by
  have h1 : B (Go.bits .and .u64 ((m >>> q : Nat) : Int) 1) 0 = m.testBit q := by
   rw [B_and, B_nat _ _ (by omega), show B 1 0 = true by decide, Nat.testBit_shiftRight]; simp
  rcases and_one ((m >>> q : Nat) : Int) with h | h
  ·rw [h] at h1 ⊢; rw [B_zero] at h1; rw [← h1]; simp
  ·rw [h] at h1 ⊢; rw [show B 1 0 = true by decide] at h1; rw [← h1]; simp
 by_cases h : m.testBit q = true
 ·rw [if_pos h]; exact hb.2 h
 ·rw [if_neg h]; rcases and_one ((m >>> q : Nat) : Int) with h' | h'
  ·exact h'
  ·exact absurd (hb.1 h') h
/-! ### what the loop over the units leaves -/
def hit (bit w : Int) (v : Int → Int) : Nat → Int → Int → Nat → Bool
 | 0, _, _, _ => false
 | d + 1, k, i, j => (decide (i = uOf bit w k) && (decide (v k = 1) && decide ((j : Int) = pOf bit w k))) || hit bit w v d (k + 1) i j
theorem hit_mono (bit w : Int) (v : Int → Int) : ∀ (d : Nat) (k i : Int) (j : Nat), hit bit w v d k i j = true → hit bit w (fun _ => 1) d k i j = true := by
 intro d
 induction d with
 | zero => intro k i j h; exact absurd h (by simp [hit])
 | succ d ih =>
  intro k i j h
  simp only [hit, Bool.or_eq_true, Bool.and_eq_true, decide_eq_true_eq] at h ⊢
  rcases h with h | h
  ·exact Or.inl ⟨h.1, trivial, h.2.2⟩
  ·exact Or.inr (ih _ _ _ h)
theorem hit_below {bit w : Int} (hw : 0 < w) (v : Int → Int) : ∀ (d : Nat) (k i : Int) (j : Nat), hit bit w v d k i j = true → (j : Int) < 8 * w := by
 intro d
 induction d with
 | zero => intro k i j h; exact absurd h (by simp [hit])
 | succ d ih =>
  intro k i j h
  simp only [hit, Bool.or_eq_true, Bool.and_eq_true, decide_eq_true_eq] at h
  rcases h with h | h
  ·rw [h.2.2]; exact Int.emod_lt_of_pos _ (by omega)
  ·exact ih _ _ _ h
theorem pos_inj {bit w : Int} (hw : 0 < w) {s t : Int} (hu : uOf bit w s = uOf bit w t) (hp : pOf bit w s = pOf bit w t) : s = t := by
 unfold uOf at hu; unfold pOf at hp
 have h1 := Int.mul_ediv_add_emod (bit + s) (8 * w)
 have h2 := Int.mul_ediv_add_emod (bit + t) (8 * w)
 have h3 : (bit + s) / (8 * w) = (bit + t) / (8 * w) := by omega
 rw [h3, hp] at h1; omega
theorem hit_not {bit w : Int} (hw : 0 < w) (v : Int → Int) : ∀ (d : Nat) (k t : Int), t < k → 0 ≤ t → 0 ≤ bit → hit bit w v d k (uOf bit w t) (pOf bit w t).toNat = false := by
 intro d
 induction d with
 | zero => intro k t _ _ _; rfl
 | succ d ih =>
  intro k t hk h0 hb
  have hp : 0 ≤ pOf bit w t := Int.emod_nonneg _ (by omega)
  simp only [hit]
  rw [ih (k + 1) t (by omega) h0 hb, Bool.or_false]
  by_cases hu : uOf bit w t = uOf bit w k
  ·by_cases hpp : pOf bit w t = pOf bit w k
   ·exact absurd (pos_inj hw hu hpp) (by omega)
   ·rw [decide_eq_false (show ¬ (((pOf bit w t).toNat : Int) = pOf bit w k) by omega)]; simp
  ·rw [decide_eq_false hu]; simp
theorem hit_at {bit w : Int} (hw : 0 < w) (v : Int → Int) : ∀ (d : Nat) (k t : Int), k ≤ t → t < k + d → 0 ≤ k → 0 ≤ bit → hit bit w v d k (uOf bit w t) (pOf bit w t).toNat = decide (v t = 1) := by
 intro d
 induction d with
 | zero => intro k t h1 h2 _ _; omega
 | succ d ih =>
  intro k t hk h1 h0 hb
  have hp : 0 ≤ pOf bit w t := Int.emod_nonneg _ (by omega)
  simp only [hit]
  by_cases ht : t = k
  ·subst ht
   rw [hit_not hw v d (t + 1) t (by omega) h0 hb, Bool.or_false, decide_eq_true (rfl : uOf bit w t = uOf bit w t), decide_eq_true (show ((pOf bit w t).toNat : Int) = pOf bit w t by omega)]; simp
  ·rw [ih (k + 1) t (by omega) (by omega) (by omega) hb]
   by_cases hu : uOf bit w t = uOf bit w k
   ·by_cases hpp : pOf bit w t = pOf bit w k
    ·exact absurd (pos_inj hw hu hpp) ht
    ·rw [decide_eq_false (show ¬ (((pOf bit w t).toNat : Int) = pOf bit w k) by omega)]; simp
   ·rw [decide_eq_false hu]; simp
theorem rd_set (l : List Int) (U : Nat) (z : Int) (i : Int) (h0 : 0 ≤ i) (hU : U < l.length) : rd (l.set U z) i = if i = U then z else rd l i := by
 unfold rd
 rw [List.getD_eq_getElem?_getD, List.getD_eq_getElem?_getD, List.getElem?_set]
 by_cases h : i = U
 ·rw [if_pos h, if_pos (by omega), if_pos hU]; rfl
 ·rw [if_neg h, if_neg (by omega)]
theorem gloop_bits {s b len bit n w u : Int} (h : VF s b len bit n w u) (v : Int → Int) (hv : ∀ t, v t = 0 ∨ v t = 1) : ∀ (d : Nat) (k : Int) (l : List Int), 0 ≤ k → k + d = n → (l.length : Int) = numU bit n w → ∀ (i : Int) (j : Nat), 0 ≤ i → j < 64 →
  B (rd (gloop bit w v d k l) i) j = (B (rd l i) j || hit bit w v d k i j) := by
 intro d
 induction d with
 | zero => intro k l _ _ _ i j _ _; simp [gloop, hit]
 | succ d ih =>
  intro k l h0 hk hl i j hi hj
  have hb := uOf_bd h h0 (show k < n by omega)
  simp only [gloop, hit]
  rw [ih (k + 1) _ (by omega) (by omega) (by rw [List.length_set]; exact hl) i j hi hj, rd_set _ _ _ _ hi (by omega)]
  by_cases hu : i = uOf bit w k
  ·rw [if_pos (by omega), B_or, B_shl (hv k) hb.2.2.1 (by omega) j hj, hu, decide_eq_true (rfl : uOf bit w k = uOf bit w k)]
   rw [Bool.true_and, Bool.or_assoc]
  ·rw [if_neg (by omega), decide_eq_false hu]; simp
theorem gloop_rng (bit w : Int) (v : Int → Int) : ∀ (d : Nat) (k : Int) (l : List Int), (∀ z ∈ l, 0 ≤ z ∧ z < 18446744073709551616) → ∀ z ∈ gloop bit w v d k l, 0 ≤ z ∧ z < 18446744073709551616 := by
 intro d
 induction d with
 | zero => intro k l h; exact h
 | succ d ih =>
  intro k l h
  refine ih _ _ fun z hz => ?_
  rcases List.mem_or_eq_of_mem_set hz with hz | hz
  ·exact h z hz
  ·rw [hz]; exact bits_rng _ _ _
theorem rd_rng {l : List Int} (h : ∀ z ∈ l, 0 ≤ z ∧ z < 18446744073709551616) (i : Int) : 0 ≤ rd l i ∧ rd l i < 18446744073709551616 := by
 unfold rd
 rw [List.getD_eq_getElem?_getD]
 by_cases hi : i.toNat < l.length
 ·rw [List.getElem?_eq_getElem hi]; exact h _ (List.getElem_mem hi)
 ·rw [List.getElem?_eq_none (by omega)]; simp
theorem rd_zeros (c : Nat) (i : Int) : rd (List.replicate c 0) i = 0 := by
 unfold rd
 rw [List.getD_eq_getElem?_getD, List.getElem?_replicate]
 split <;> rfl
theorem mask_bits {s b len bit n w u : Int} (h : VF s b len bit n w u) {i : Int} (hi : 0 ≤ i) {j : Nat} (hj : j < 64) : B (rd (masksOf s b len bit n w u) i) j = hit bit w (fun _ => 1) n.toNat 0 i j := by
 have hn := numU_bd h
 have hn2 : 1 ≤ n ∧ n ≤ 256 := by unfold VF at h; omega
 unfold masksOf
 rw [if_pos h, gloop_bits h (fun _ => 1) (fun _ => Or.inr rfl) n.toNat 0 _ (by omega) (by omega) (by rw [List.length_replicate]; omega) i j hi hj, rd_zeros, B_zero, Bool.false_or]
/-! ### layer 11: taking a field's bits out of the units, and putting them in -/
/-- The bit of the units x at k. -/
def xbit (bit w : Int) (x : List Int) (k : Int) : Int := Go.bits .and .u64 (shr .u64 (rd x (uOf bit w k)) (pOf bit w k)) 1
theorem xbit_two (bit w : Int) (x : List Int) (k : Int) : xbit bit w x k = 0 ∨ xbit bit w x k = 1 := and_one _
theorem put_two {v t : Int} (hv : v = 0 ∨ v = 1) (h0 : 0 ≤ t) (h1 : t < 8) : shl .u8 (v % 256) t = v * 2 ^ t.toNat ∧ shl .u64 v t % 256 = v * 2 ^ t.toNat := by
 have h : t = 0 ∨ t = 1 ∨ t = 2 ∨ t = 3 ∨ t = 4 ∨ t = 5 ∨ t = 6 ∨ t = 7 := by omega
 rcases hv with rfl | rfl <;> rcases h with rfl | rfl | rfl | rfl | rfl | rfl | rfl | rfl <;> decide
/-- Bit after bit goes from the units x into the bytes l. -/
def eloop (bit w : Int) (x : List Int) : Nat → Int → List Int → List Int
 | 0, _, l => l
 | d + 1, k, l => eloop bit w x d (k + 1) (l.set (k / 8).toNat (Go.bits .or .u8 (rd l (k / 8)) (xbit bit w x k * 2 ^ (k % 8).toNat)))
theorem fieldExtract_loop {s b len bit n w u i d : Int} (h : VF s b len bit n w u) (x : List Int) (hx : (x.length : Int) = numU bit n w) : ∀ (e : Nat) (k : Int) (q : Nat) (l : List Int), 0 ≤ k → k + e = n → e < q → (l.length : Int) = (n + 7) / 8 →
  field_Extract.l0 q x l n k s b len bit n w u i d = some (strOfNums (eloop bit w x e k l)) := by
 intro e
 induction e with
 | zero =>
  intro k q l h0 hk hq hl
  obtain ⟨q, rfl⟩ : ∃ m, q = m + 1 := ⟨q - 1, by omega⟩
  simp only [field_Extract.l0]; rw [if_neg (by omega)]; rfl
 | succ e ih =>
  intro k q l h0 hk hq hl
  obtain ⟨q, rfl⟩ : ∃ m, q = m + 1 := ⟨q - 1, by omega⟩
  have hb := uOf_bd h h0 (show k < n by omega)
  have hn : n ≤ 256 := by unfold VF at h; omega
  have e1 : wrap64 (Int.tdiv k 8) = k / 8 := by rw [tdiv_pos h0]; exact wrap64_id (by omega) (by omega)
  have e2 : Int.tmod k 8 = k % 8 := tmod_pos h0
  simp only [field_Extract.l0]
  rw [if_pos (by omega), pos_eq h h0 (by omega), Option.bind_some, e1, e2]
  simp only
  rw [if_pos (by omega), if_pos (by omega), if_pos hb.1, if_pos (by omega), if_pos hb.2.2.1, if_pos (by omega), wrap64_id (a := k + 1) (by omega) (by omega)]
  rw [show Go.bits .and .u64 (shr .u64 (rd x (uOf bit w k)) (pOf bit w k)) 1 = xbit bit w x k from rfl, (put_two (xbit_two bit w x k) (t := k % 8) (by omega) (by omega)).1]
  exact ih (k + 1) q _ (by omega) (by omega) (by omega) (by rw [List.length_set]; exact hl)
/-- What is taken out. -/
def exOf (s b len bit n w u : Int) (x : List Int) : ByteArray := if VF s b len bit n w u ∧ (x.length : Int) = numU bit n w then strOfNums (eloop bit w x n.toNat 0 (List.replicate ((n + 7) / 8).toNat 0)) else ⟨#[]⟩
theorem fieldExtract_eq {s b len bit n w u i d : Int} (hb : 0 ≤ b) (hb2 : b < 18446744073709551616) (hl : 0 ≤ len) (hl2 : len < 18446744073709551616) (k : Nat) (hk : 300 ≤ k) (x : List Int) :
  field_Extract.f k s b len bit n w u i d x = some (exOf s b len bit n w u x) := by
 obtain ⟨k, rfl⟩ : ∃ m, k = m + 1 := ⟨k - 1, by omega⟩
 unfold field_Extract.f exOf
 rw [fieldUnits_eq hb hb2 hl hl2 (k + 1) (by omega), Option.bind_some]
 by_cases h : VF s b len bit n w u
 ·have hn := numU_bd h
  have hn2 : 1 ≤ n ∧ n ≤ 256 := by unfold VF at h; omega
  rw [if_pos h]
  simp only
  rw [if_neg (by omega)]
  simp only [field_Extract.j0]
  by_cases hx : (x.length : Int) = numU bit n w
  ·rw [if_neg (by simp [hx]), if_pos ⟨h, hx⟩]
   unfold field_size.f
   rw [Option.bind_some, wrap64_id (a := n + 8) (by omega) (by omega), wrap64_id (a := n + 8 - 1) (by omega) (by omega), tdiv_pos (by omega), show n + 8 - 1 = n + 7 by omega, wrap64_id (a := (n + 7) / 8) (by omega) (by omega), if_pos (by omega), if_pos (by omega)]
   exact fieldExtract_loop h x hx n.toNat 0 k _ (by omega) (by omega) (by omega) (by rw [List.length_replicate]; omega)
  ·rw [if_pos (by simpa using hx), if_neg (fun hh => hx hh.2)]
 ·obtain ⟨k, rfl⟩ : ∃ m, k = m + 1 := ⟨k - 1, by omega⟩
  rw [if_neg (c := VF s b len bit n w u ∧ (x.length : Int) = numU bit n w) (fun hh => h hh.1), if_neg h]
  simp only
  rw [if_pos trivial]
  simp only [field_Extract.j0]
  rw [if_pos trivial]
/-! ### layer 11: putting bits in -/
def sbit (a : ByteArray) (k : Int) : Int := if k / 8 ≥ (a.size : Int) then 0 else Go.bits .and .u64 (IntKind.u64.wrap (shr .u8 (bt a (k / 8)) (k % 8))) 1
theorem bit_two (a : ByteArray) {k : Int} (h0 : 0 ≤ k) (h1 : k < 1000) : field_bit.f a k = some (sbit a k) ∧ platformfwref09_bit.f a k = some (sbit a k) := by
 have f1 : wrap64 (Int.tdiv k 8) = k / 8 := by rw [tdiv_pos h0]; exact wrap64_id (by omega) (by omega)
 have f2 : IntKind.u64.wrap (k % 8) = k % 8 := wrap_u64_id (by omega) (by omega)
 unfold field_bit.f platformfwref09_bit.f sbit
 rw [f1, tmod_pos h0, f2]
 by_cases h : k / 8 ≥ (a.size : Int)
 ·rw [if_pos h, if_pos h]; exact ⟨rfl, rfl⟩
 ·rw [if_neg h, if_neg h, if_pos (by omega), if_pos (by omega), if_pos (by omega)]; exact ⟨rfl, rfl⟩
/-- What stays of the units, or is put there. -/
def baseU (u w : Int) (m x : List Int) (j : Nat) : Int := if u = 0 then Go.bits .andNot .u64 (Go.bits .and .u64 (rd x j) (fullW w)) (rd m j) else if u = 1 then Go.bits .andNot .u64 (fullW w) (rd m j) else 0
theorem insField_base {s b len bit n w u i d : Int} (h : VF s b len bit n w u) (a : ByteArray) (x m : List Int) (hm : m.length ≤ 1000) (hx : x.length = m.length) (hm0 : 0 < m.length) : ∀ (e : Nat) (j q : Nat) (l : List Int), l = (List.range j).map (baseU u w m x) → j + e = m.length → e + 1 < q →
  ∃ q', q' + e + 1 = q ∧ field_Insert.l0 q a x l m m.length j s b len bit n w u i d = field_Insert.l1 q' a ((List.range m.length).map (baseU u w m x)) n 0 s b len bit n w u i d := by
 intro e
 induction e with
 | zero =>
  intro j q l hl hj hq
  obtain ⟨q, rfl⟩ : ∃ m, q = m + 1 := ⟨q - 1, by omega⟩
  refine ⟨q, by omega, ?_⟩
  obtain rfl : j = m.length := by omega
  simp only [field_Insert.l0]
  rw [if_neg (by omega), if_pos (by rw [hl, List.length_map, List.length_range]; omega), hl]
 | succ e ih =>
  intro j q l hl hj hq
  obtain ⟨q, rfl⟩ : ∃ m, q = m + 1 := ⟨q - 1, by omega⟩
  have hlen : l.length = j := by rw [hl, List.length_map, List.length_range]
  have hnext : ∀ z, z = baseU u w m x j → l ++ [z] = (List.range (j + 1)).map (baseU u w m x) := by
   intro z hz; rw [List.range_succ, List.map_append, hl, hz]; rfl
  have hu : 0 ≤ u ∧ u ≤ 2 := by unfold VF at h; omega
  simp only [field_Insert.l0]
  rw [if_pos (by omega), if_pos (by omega), if_pos (by omega), wrap64_id (a := (j : Int) + 1) (by omega) (by omega)]
  by_cases u0 : u = 0
  ·rw [if_pos u0, if_pos (by omega), (full_eq h).1, Option.bind_some, if_pos (by omega)]
   obtain ⟨q', h1, h2⟩ := ih (j + 1) q _ (hnext _ (by unfold baseU; rw [if_pos u0])) (by omega) (by omega)
   exact ⟨q', by omega, h2⟩
  ·rw [if_neg u0]
   by_cases u1 : u = 1
   ·rw [if_pos u1, (full_eq h).1, Option.bind_some, if_pos (by omega)]
    obtain ⟨q', h1, h2⟩ := ih (j + 1) q _ (hnext _ (by unfold baseU; rw [if_neg u0, if_pos u1])) (by omega) (by omega)
    exact ⟨q', by omega, h2⟩
   ·rw [if_neg u1, if_pos (by omega)]
    obtain ⟨q', h1, h2⟩ := ih (j + 1) q _ (hnext _ (by unfold baseU; rw [if_neg u0, if_neg u1])) (by omega) (by omega)
    exact ⟨q', by omega, h2⟩
theorem insField_loop {s b len bit n w u i d : Int} (h : VF s b len bit n w u) (a : ByteArray) : ∀ (e : Nat) (k : Int) (q : Nat) (l : List Int), 0 ≤ k → k + e = n → e < q → (l.length : Int) = numU bit n w →
  field_Insert.l1 q a l n k s b len bit n w u i d = some (gloop bit w (sbit a) e k l) := by
 intro e
 induction e with
 | zero =>
  intro k q l h0 hk hq hl
  obtain ⟨q, rfl⟩ : ∃ m, q = m + 1 := ⟨q - 1, by omega⟩
  simp only [field_Insert.l1]; rw [if_neg (by omega)]; rfl
 | succ e ih =>
  intro k q l h0 hk hq hl
  obtain ⟨q, rfl⟩ : ∃ m, q = m + 1 := ⟨q - 1, by omega⟩
  have hb := uOf_bd h h0 (show k < n by omega)
  have hn : n ≤ 256 := by unfold VF at h; omega
  simp only [field_Insert.l1]
  rw [if_pos (by omega), pos_eq h h0 (by omega), Option.bind_some]
  simp only
  rw [if_pos hb.1, if_pos (by omega), (bit_two a h0 (by omega)).1, Option.bind_some, if_pos hb.2.2.1, wrap64_id (a := k + 1) (by omega) (by omega)]
  exact ih (k + 1) q _ (by omega) (by omega) (by omega) (by rw [List.length_set]; exact hl)
/-- The units with the bits of a put in. -/
def inOf (s b len bit n w u : Int) (a : ByteArray) (x : List Int) : List Int := if VF s b len bit n w u ∧ (x.length : Int) = numU bit n w then gloop bit w (sbit a) n.toNat 0 ((List.range (masksOf s b len bit n w u).length).map (baseU u w (masksOf s b len bit n w u) x)) else []
theorem fieldInsert_eq {s b len bit n w u i d : Int} (hb : 0 ≤ b) (hb2 : b < 18446744073709551616) (hl : 0 ≤ len) (hl2 : len < 18446744073709551616) (k : Nat) (hk : 1000 ≤ k) (a : ByteArray) (x : List Int) :
  field_Insert.f k s b len bit n w u i d a x = some (inOf s b len bit n w u a x) := by
 unfold field_Insert.f inOf
 rw [fieldMasks_eq hb hb2 hl hl2 k (by omega), Option.bind_some]
 by_cases h : VF s b len bit n w u
 ·have hn := numU_bd h
  have hm := masksOf_length h
  have hn2 : 1 ≤ n ∧ n ≤ 256 := by unfold VF at h; omega
  rw [hm]
  by_cases hx : (x.length : Int) = numU bit n w
  ·rw [if_pos hx, if_pos ⟨h, hx⟩, ← hm]
   obtain ⟨q', h1, h2⟩ := insField_base (i := i) (d := d) h a x (masksOf s b len bit n w u) (by omega) (by omega) (by omega) (masksOf s b len bit n w u).length 0 k [] (by simp) (by omega) (by omega)
   rw [show ((0 : Nat) : Int) = 0 from rfl] at h2
   rw [h2]
   exact insField_loop h a n.toNat 0 q' _ (by omega) (by omega) (by omega) (by rw [List.length_map, List.length_range]; exact hm)
  ·rw [if_neg hx, if_neg (fun hh => hx hh.2)]
 ·rw [if_neg (c := VF s b len bit n w u ∧ (x.length : Int) = numU bit n w) (fun hh => h hh.1)]
  obtain ⟨k, rfl⟩ : ∃ m, k = m + 1 := ⟨k - 1, by omega⟩
  have hm : masksOf s b len bit n w u = [] := by unfold masksOf; rw [if_neg h]
  rw [hm]
  by_cases hx : (x.length : Int) = (([] : List Int).length : Int)
  ·rw [if_pos hx]
   simp only [field_Insert.l0]
   rw [if_neg (by simp), if_neg (by simp)]
  ·rw [if_neg hx]
theorem sbit_two (a : ByteArray) (t : Int) : sbit a t = 0 ∨ sbit a t = 1 := by
 unfold sbit
 split
 ·exact Or.inl rfl
 ·exact and_one _
/-! ### bits of bytes -/
def B8 (x : Int) (j : Nat) : Bool := (BitVec.ofInt 8 x).getLsbD j
theorem w8 (n : Int) : IntKind.u8.wrap n = n % 256 := by simp [IntKind.wrap, IntKind.bits, IntKind.signed]
theorem V8_back (v : BitVec 8) : BitVec.ofInt 8 (IntKind.u8.wrap (v.toNat : Int)) = v := by
 have := v.isLt
 rw [w8, Int.emod_eq_of_lt (by omega) (by omega), BitVec.ofInt_natCast, BitVec.ofNat_toNat, BitVec.setWidth_eq]
theorem B8_or (x y : Int) (j : Nat) : B8 (Go.bits .or .u8 x y) j = (B8 x j || B8 y j) := by
 unfold B8
 rw [show BitVec.ofInt 8 (Go.bits .or .u8 x y) = BitVec.ofInt 8 x ||| BitVec.ofInt 8 y from V8_back _, BitVec.getLsbD_or]
theorem bits8_rng (op : BinOp) (x y : Int) : 0 ≤ Go.bits op .u8 x y ∧ Go.bits op .u8 x y < 256 := by
 have e : ∃ v : Int, Go.bits op .u8 x y = IntKind.u8.wrap v := ⟨_, rfl⟩
 obtain ⟨v, hv⟩ := e
 rw [hv, w8]; omega
theorem B8_zero (j : Nat) : B8 0 j = false := by unfold B8; rw [show BitVec.ofInt 8 0 = 0#8 by decide]; simp
theorem B8_nat (m j : Nat) (hj : j < 8) : B8 (m : Int) j = m.testBit j := by
 unfold B8
 rw [BitVec.ofInt_natCast, BitVec.getLsbD_ofNat]; simp [hj]
theorem B8_put {v t : Int} (hv : v = 0 ∨ v = 1) (h0 : 0 ≤ t) (h1 : t < 8) (j : Nat) (hj : j < 8) : B8 (v * 2 ^ t.toNat) j = (decide (v = 1) && decide ((j : Int) = t)) := by
 have h : t = 0 ∨ t = 1 ∨ t = 2 ∨ t = 3 ∨ t = 4 ∨ t = 5 ∨ t = 6 ∨ t = 7 := by omega
 have hk : j = 0 ∨ j = 1 ∨ j = 2 ∨ j = 3 ∨ j = 4 ∨ j = 5 ∨ j = 6 ∨ j = 7 := by omega
 rcases hv with rfl | rfl <;> rcases h with rfl | rfl | rfl | rfl | rfl | rfl | rfl | rfl <;> rcases hk with rfl | rfl | rfl | rfl | rfl | rfl | rfl | rfl <;> decide
theorem bit8_of {x p : Int} (hx : 0 ≤ x) (hx2 : x < 256) (h0 : 0 ≤ p) (h1 : p < 8) : Go.bits .and .u64 (IntKind.u64.wrap (shr .u8 x p)) 1 = if B8 x p.toNat then 1 else 0 := by
 have e : IntKind.u64.wrap (shr .u8 x p) = shr .u64 x p := by
  have : shr .u8 x p = shr .u64 x p := by
   unfold shr
   rw [show min p.toNat IntKind.u8.bits = p.toNat by simp only [IntKind.bits]; omega, show min p.toNat IntKind.u64.bits = p.toNat by simp only [IntKind.bits]; omega]
  rw [this]
  have hp : (0 : Int) < 2 ^ (min p.toNat IntKind.u64.bits) := Int.pow_pos (by decide)
  unfold shr
  exact wrap_u64_id (Int.ediv_nonneg hx (by omega)) (Int.lt_of_le_of_lt (Int.ediv_le_self _ hx) (by omega))
 rw [e, bit_of hx (by omega) h0 (by omega)]
 obtain ⟨m, rfl⟩ := Int.eq_ofNat_of_zero_le hx
 rw [B_nat _ _ (by omega), B8_nat _ _ (by omega)]
/-- Bit after bit goes into the bytes l; v tells them. -/
def bloop (v : Int → Int) : Nat → Int → List Int → List Int
 | 0, _, l => l
 | d + 1, k, l => bloop v d (k + 1) (l.set (k / 8).toNat (Go.bits .or .u8 (rd l (k / 8)) (v k * 2 ^ (k % 8).toNat)))
theorem eloop_eq (bit w : Int) (x : List Int) : ∀ (d : Nat) (k : Int) (l : List Int), eloop bit w x d k l = bloop (xbit bit w x) d k l := by
 intro d
 induction d with
 | zero => intro k l; rfl
 | succ d ih => intro k l; simp only [eloop, bloop, ih]
theorem bloop_congr (v v' : Int → Int) : ∀ (d : Nat) (k : Int) (l : List Int), (∀ t, k ≤ t → t < k + d → v t = v' t) → bloop v d k l = bloop v' d k l := by
 intro d
 induction d with
 | zero => intro k l _; rfl
 | succ d ih => intro k l h; simp only [bloop]; rw [h k (by omega) (by omega)]; exact ih _ _ fun t h1 h2 => h t (by omega) (by omega)
theorem bloop_length (v : Int → Int) : ∀ (d : Nat) (k : Int) (l : List Int), (bloop v d k l).length = l.length
 | 0, _, _ => rfl
 | d + 1, k, l => by rw [bloop, bloop_length v d, List.length_set]
theorem bloop_rng (v : Int → Int) : ∀ (d : Nat) (k : Int) (l : List Int), (∀ z ∈ l, 0 ≤ z ∧ z < 256) → ∀ z ∈ bloop v d k l, 0 ≤ z ∧ z < 256 := by
 intro d
 induction d with
 | zero => intro k l h; exact h
 | succ d ih =>
  intro k l h
  refine ih _ _ fun z hz => ?_
  rcases List.mem_or_eq_of_mem_set hz with hz | hz
  ·exact h z hz
  ·rw [hz]; exact bits8_rng _ _ _
theorem u01 (k : Int) : uOf 0 1 k = k / 8 ∧ pOf 0 1 k = k % 8 := by unfold uOf pOf; omega
theorem bloop_bits {n : Int} (v : Int → Int) (hv : ∀ t, v t = 0 ∨ v t = 1) : ∀ (d : Nat) (k : Int) (l : List Int), 0 ≤ k → k + d = n → (l.length : Int) = (n + 7) / 8 → ∀ (i : Int) (j : Nat), 0 ≤ i → j < 8 →
  B8 (rd (bloop v d k l) i) j = (B8 (rd l i) j || hit 0 1 v d k i j) := by
 intro d
 induction d with
 | zero => intro k l _ _ _ i j _ _; simp [bloop, hit]
 | succ d ih =>
  intro k l h0 hk hl i j hi hj
  simp only [bloop, hit]
  rw [ih (k + 1) _ (by omega) (by omega) (by rw [List.length_set]; exact hl) i j hi hj, rd_set _ _ _ _ hi (by omega), (u01 k).1, (u01 k).2]
  by_cases hu : i = k / 8
  ·rw [if_pos (by omega), B8_or, B8_put (hv k) (by omega) (by omega) j hj, hu, decide_eq_true (rfl : k / 8 = k / 8)]
   rw [Bool.true_and, Bool.or_assoc]
  ·rw [if_neg (by omega), decide_eq_false hu]; simp
theorem bloop_at {n : Int} (v : Int → Int) (hv : ∀ t, v t = 0 ∨ v t = 1) {t : Int} (h0 : 0 ≤ t) (h1 : t < n) : sbit (strOfNums (bloop v n.toNat 0 (List.replicate ((n + 7) / 8).toNat 0))) t = v t := by
 have hr := bloop_rng v n.toNat 0 (List.replicate ((n + 7) / 8).toNat 0) (fun z hz => by rw [List.eq_of_mem_replicate hz]; omega)
 have hb := B_nums hr
 have hs : ((strOfNums (bloop v n.toNat 0 (List.replicate ((n + 7) / 8).toNat 0))).size : Int) = (n + 7) / 8 := by
  rw [← B_size, hb, bloop_length, List.length_replicate]; omega
 unfold sbit
 rw [if_neg (by rw [hs]; omega), bit8_of (by have := bt_range (strOfNums (bloop v n.toNat 0 (List.replicate ((n + 7) / 8).toNat 0))) (t / 8); omega) (by have := bt_range (strOfNums (bloop v n.toNat 0 (List.replicate ((n + 7) / 8).toNat 0))) (t / 8); omega) (by omega) (by omega)]
 have e : bt (strOfNums (bloop v n.toNat 0 (List.replicate ((n + 7) / 8).toNat 0))) (t / 8) = rd (bloop v n.toNat 0 (List.replicate ((n + 7) / 8).toNat 0)) (t / 8) := by rw [← rd_bytesOf, hb]
 rw [e, bloop_bits (n := n) v hv n.toNat 0 _ (by omega) (by omega) (by rw [List.length_replicate]; omega) (t / 8) (t % 8).toNat (by omega) (by omega), rd_zeros, B8_zero, Bool.false_or]
 have := hit_at (bit := 0) (w := 1) (by omega) v n.toNat 0 t h0 (by omega) (by omega) (by omega)
 rw [(u01 t).1, (u01 t).2] at this
 rw [this]
 rcases hv t with h | h <;> rw [h] <;> rfl
theorem fit_len (l : List Int) {m : Int} (h0 : 0 ≤ m) (h1 : m ≤ 257) : ∃ r, platformfwlaw11_fit.f l m = some r ∧ (r.length : Int) = m := by
 unfold platformfwlaw11_fit.f
 rw [if_pos h0, if_pos (by omega)]
 refine ⟨_, rfl, ?_⟩
 rw [List.length_append, List.length_take, List.length_replicate]; omega
/-! ### layer 11: the bits of a value -/
theorem little_ex {a : Int} : ∀ (e : Nat) (i : Int) (q : Nat) (x : ByteArray), 0 ≤ i → i + e = 8 → e < q → (x.size : Int) = i → ∃ r, platformfwref08_little.l0 q a x i = some r := by
 intro e
 induction e with
 | zero =>
  intro i q x h0 hi hq hx
  obtain ⟨q, rfl⟩ : ∃ m, q = m + 1 := ⟨q - 1, by omega⟩
  simp only [platformfwref08_little.l0]; rw [if_neg (by omega)]; exact ⟨_, rfl⟩
 | succ e ih =>
  intro i q x h0 hi hq hx
  obtain ⟨q, rfl⟩ : ∃ m, q = m + 1 := ⟨q - 1, by omega⟩
  simp only [platformfwref08_little.l0]
  rw [if_pos (by omega), if_pos (wrap_u64_rng _).1, Option.bind_some]
  have hs : (strOfNums [(shr .u64 a (IntKind.u64.wrap (wrap64 (8 * i)))) % 256]).size = 1 := by
   rw [← B_size, B_nums (by intro z hz; rw [List.mem_singleton.1 hz]; omega)]; rfl
  rw [hs, if_pos (by omega), wrap64_id (a := i + 1) (by omega) (by omega)]
  refine ih (i + 1) q _ (by omega) (by omega) (by omega) ?_
  rw [ByteArray.size_append, hs]; omega
theorem number_ex (a : Int) (k : Nat) (hk : 20 ≤ k) : ∃ r, platformfwref08_Buffer.f k 1 a ⟨#[]⟩ 0 = some (r, 0) := by
 obtain ⟨r, hr⟩ := little_ex (a := a) 8 0 k ⟨#[]⟩ (by omega) (by omega) (by omega) rfl
 unfold platformfwref08_Buffer.f platformfwref08_Valid.f platformfwref08_little.f
 rw [if_pos (by omega), if_pos (by omega), if_neg (by omega), if_neg (by omega), Option.bind_some, if_pos rfl, if_neg (by omega), if_pos rfl, hr, Option.bind_some]
 exact ⟨r, rfl⟩
theorem value_loop {s b len bit n w u i d : Int} (hn : 1 ≤ n ∧ n ≤ 256) (x : ByteArray) : ∀ (e : Nat) (k : Int) (q : Nat) (l : List Int), 0 ≤ k → k + e = n → e < q → (l.length : Int) = (n + 7) / 8 →
  platformfwref09_FromValue.l0 q x l k s b len bit n w u i d = some (strOfNums (bloop (sbit x) e k l), 0) := by
 intro e
 induction e with
 | zero =>
  intro k q l h0 hk hq hl
  obtain ⟨q, rfl⟩ : ∃ m, q = m + 1 := ⟨q - 1, by omega⟩
  simp only [platformfwref09_FromValue.l0]; rw [if_neg (by omega)]; rfl
 | succ e ih =>
  intro k q l h0 hk hq hl
  obtain ⟨q, rfl⟩ : ∃ m, q = m + 1 := ⟨q - 1, by omega⟩
  have f1 : wrap64 (Int.tdiv k 8) = k / 8 := by rw [tdiv_pos h0]; exact wrap64_id (by omega) (by omega)
  have f2 : IntKind.u64.wrap (Int.tmod k 8) = k % 8 := by rw [tmod_pos h0]; exact wrap_u64_id (by omega) (by omega)
  simp only [platformfwref09_FromValue.l0]
  rw [if_pos (by omega), f1, f2, if_pos (by omega), if_pos (by omega), (bit_two x h0 (by omega)).2, Option.bind_some, if_pos (by omega), wrap64_id (a := k + 1) (by omega) (by omega), (put_two (sbit_two x k) (t := k % 8) (by omega) (by omega)).2]
  exact ih (k + 1) q _ (by omega) (by omega) (by omega) (by rw [List.length_set]; exact hl)
/-- A number's bits in a field: no field, or the bits of some bytes. -/
theorem value_ex {s b len bit n w u i d : Int} (hb : 0 ≤ b) (hb2 : b < 18446744073709551616) (hl : 0 ≤ len) (hl2 : len < 18446744073709551616) (k : Nat) (hk : 1000 ≤ k) (a : Int) :
  (¬ VF s b len bit n w u ∧ platformfwref09_FromValue.f k s b len bit n w u i d 1 a ⟨#[]⟩ 0 = some (⟨#[]⟩, 1)) ∨ (VF s b len bit n w u ∧ ∃ x, platformfwref09_FromValue.f k s b len bit n w u i d 1 a ⟨#[]⟩ 0 = some (strOfNums (bloop (sbit x) n.toNat 0 (List.replicate ((n + 7) / 8).toNat 0)), 0)) := by
 obtain ⟨k, rfl⟩ : ∃ m, k = m + 2 := ⟨k - 2, by omega⟩
 have hv : platformfwref08_Valid.f 1 a ⟨#[]⟩ 0 = some true := by
  unfold platformfwref08_Valid.f
  rw [if_pos (by omega), if_pos (by omega), if_neg (by omega), if_neg (by omega)]
 unfold platformfwref09_FromValue.f
 rw [hv, Option.bind_some, if_pos rfl, refValid_eq hb hb2 hl hl2 (k + 2) (by omega), Option.bind_some]
 by_cases h : VF s b len bit n w u
 ·have hn2 : 1 ≤ n ∧ n ≤ 256 := by unfold VF at h; omega
  obtain ⟨r, hr⟩ := number_ex a (k + 1) (by omega)
  refine Or.inr ⟨h, r, ?_⟩
  rw [decide_eq_true h]
  simp only [platformfwref09_FromValue.j0]
  rw [if_neg (by decide), if_pos trivial, hr, Option.bind_some]
  simp only [platformfwref09_FromValue.j1]
  rw [wrap64_id (a := n + 7) (by omega) (by omega), tdiv_pos (by omega), wrap64_id (a := (n + 7) / 8) (by omega) (by omega), if_pos (by omega), if_pos (by omega)]
  exact value_loop hn2 r n.toNat 0 k _ (by omega) (by omega) (by omega) (by rw [List.length_replicate]; omega)
 ·refine Or.inl ⟨h, ?_⟩
  rw [decide_eq_false h]
  simp only [platformfwref09_FromValue.j0]
  rw [if_pos (by decide)]
/-! ### what is put in comes out again -/
theorem B_full {w : Int} (hw : w = 1 ∨ w = 2 ∨ w = 4 ∨ w = 8) (j : Nat) (hj : j < 64) : B (fullW w) j = decide ((j : Int) < 8 * w) := by
 rcases hw with rfl | rfl | rfl | rfl
 ·have : ∀ j : Fin 64, B (fullW 1) j = decide (((j : Nat) : Int) < 8 * 1) := by decide +kernel
  exact this ⟨j, hj⟩
 ·have : ∀ j : Fin 64, B (fullW 2) j = decide (((j : Nat) : Int) < 8 * 2) := by decide +kernel
  exact this ⟨j, hj⟩
 ·have : ∀ j : Fin 64, B (fullW 4) j = decide (((j : Nat) : Int) < 8 * 4) := by decide +kernel
  exact this ⟨j, hj⟩
 ·have : ∀ j : Fin 64, B (fullW 8) j = decide (((j : Nat) : Int) < 8 * 8) := by decide +kernel
  exact this ⟨j, hj⟩
theorem rd_base {u w : Int} (m x : List Int) {i : Int} (hi : 0 ≤ i) (hm : i < m.length) : rd ((List.range m.length).map (baseU u w m x)) i = baseU u w m x i.toNat := by
 unfold rd
 rw [List.getD_eq_getElem?_getD, List.getElem?_map, List.getElem?_range (by omega)]; rfl
theorem base_rng {u w : Int} (m x : List Int) : ∀ z ∈ (List.range m.length).map (baseU u w m x), 0 ≤ z ∧ z < 18446744073709551616 := by
 intro z hz
 obtain ⟨j, _, rfl⟩ := List.mem_map.1 hz
 unfold baseU
 split
 ·exact bits_rng _ _ _
 ·split
  ·exact bits_rng _ _ _
  ·omega
/-- The bits of a unit after the putting in. -/
theorem in_bits {s b len bit n w u : Int} (h : VF s b len bit n w u) (a : ByteArray) (x : List Int) (hx : (x.length : Int) = numU bit n w) {i : Int} (hi : 0 ≤ i) (hi2 : i < numU bit n w) {j : Nat} (hj : j < 64) :
  B (rd (inOf s b len bit n w u a x) i) j = ((if u = 0 then (B (rd x i) j && decide ((j : Int) < 8 * w)) && !hit bit w (fun _ => 1) n.toNat 0 i j else if u = 1 then decide ((j : Int) < 8 * w) && !hit bit w (fun _ => 1) n.toNat 0 i j else false) || hit bit w (sbit a) n.toNat 0 i j) := by
 have hn := numU_bd h
 have hm := masksOf_length h
 have hn2 : 1 ≤ n ∧ n ≤ 256 := by unfold VF at h; omega
 have hw : w = 1 ∨ w = 2 ∨ w = 4 ∨ w = 8 := by unfold VF at h; exact h.2.2.2.2.2.1
 have hc : ((i.toNat : Nat) : Int) = i := by omega
 unfold inOf
 rw [if_pos ⟨h, hx⟩, gloop_bits h (sbit a) (sbit_two a) n.toNat 0 _ (by omega) (by omega) (by rw [List.length_map, List.length_range]; exact hm) i j hi hj, rd_base _ _ hi (by omega)]
 congr 1
 unfold baseU
 rw [hc]
 by_cases u0 : u = 0
 ·rw [if_pos u0, if_pos u0, B_andNot _ _ _ hj, B_and, B_full hw j hj, mask_bits h hi hj]
 ·rw [if_neg u0, if_neg u0]
  by_cases u1 : u = 1
  ·rw [if_pos u1, if_pos u1, B_andNot _ _ _ hj, B_full hw j hj, mask_bits h hi hj]
  ·rw [if_neg u1, if_neg u1, B_zero]
theorem in_rng {s b len bit n w u : Int} (a : ByteArray) (x : List Int) : ∀ z ∈ inOf s b len bit n w u a x, 0 ≤ z ∧ z < 18446744073709551616 := by
 unfold inOf
 split
 ·exact gloop_rng _ _ _ _ _ _ (base_rng _ _)
 ·intro z hz; exact absurd hz (by simp)
theorem in_at {s b len bit n w u : Int} (h : VF s b len bit n w u) (a : ByteArray) (x : List Int) (hx : (x.length : Int) = numU bit n w) {t : Int} (h0 : 0 ≤ t) (h1 : t < n) : xbit bit w (inOf s b len bit n w u a x) t = sbit a t := by
 have hb := uOf_bd h h0 h1
 have hn2 : 1 ≤ n ∧ n ≤ 256 ∧ 0 ≤ bit ∧ 0 < w := by unfold VF at h; omega
 have hr := rd_rng (in_rng (s := s) (b := b) (len := len) (bit := bit) (n := n) (w := w) (u := u) a x) (uOf bit w t)
 have h1' := hit_at (bit := bit) (w := w) hn2.2.2.2 (fun _ => 1) n.toNat 0 t h0 (by omega) (by omega) hn2.2.2.1
 have h2' := hit_at (bit := bit) (w := w) hn2.2.2.2 (sbit a) n.toNat 0 t h0 (by omega) (by omega) hn2.2.2.1
 unfold xbit
 rw [bit_of hr.1 hr.2 hb.2.2.1 (by omega), in_bits h a x hx hb.1 hb.2.1 (by omega), h1', h2']
 have : (if u = 0 then (B (rd x (uOf bit w t)) (pOf bit w t).toNat && decide (((pOf bit w t).toNat : Int) < 8 * w)) && !decide ((1 : Int) = 1) else if u = 1 then decide (((pOf bit w t).toNat : Int) < 8 * w) && !decide ((1 : Int) = 1) else false) = false := by
  split
  ·simp
  ·split <;> simp
 rw [this, Bool.false_or]
 rcases sbit_two a t with e | e <;> rw [e] <;> rfl
theorem ex_in {s b len bit n w u : Int} (h : VF s b len bit n w u) (v : Int → Int) (hv : ∀ t, v t = 0 ∨ v t = 1) (x : List Int) (hx : (x.length : Int) = numU bit n w) :
  exOf s b len bit n w u (inOf s b len bit n w u (strOfNums (bloop v n.toNat 0 (List.replicate ((n + 7) / 8).toNat 0))) x) = strOfNums (bloop v n.toNat 0 (List.replicate ((n + 7) / 8).toNat 0)) := by
 have hm := masksOf_length h
 have hlen : ((inOf s b len bit n w u (strOfNums (bloop v n.toNat 0 (List.replicate ((n + 7) / 8).toNat 0))) x).length : Int) = numU bit n w := by
  unfold inOf; rw [if_pos ⟨h, hx⟩, gloop_length, List.length_map, List.length_range]; exact hm
 have hn2 : 1 ≤ n ∧ n ≤ 256 := by unfold VF at h; omega
 unfold exOf
 rw [if_pos ⟨h, hlen⟩, eloop_eq]
 congr 1
 refine bloop_congr _ _ _ _ _ fun t h0 h1 => ?_
 rw [in_at h _ x hx h0 (by omega), bloop_at v hv h0 (by omega)]
theorem over_full {s b len bit n w u : Int} (h : VF s b len bit n w u) (a : ByteArray) (x : List Int) (hx : (x.length : Int) = numU bit n w) {i : Int} (hi : 0 ≤ i) (hi2 : i < numU bit n w) : Go.bits .andNot .u64 (rd (inOf s b len bit n w u a x) i) (fullW w) = 0 := by
 have hw : w = 1 ∨ w = 2 ∨ w = 4 ∨ w = 8 := by unfold VF at h; exact h.2.2.2.2.2.1
 refine B_none _ _ _ fun j hj => ?_
 rw [B_andNot _ _ _ hj, B_full hw j hj, in_bits h a x hx hi hi2 hj]
 by_cases hj8 : (j : Int) < 8 * w
 ·rw [decide_eq_true hj8]; simp
 ·have hh : hit bit w (sbit a) n.toNat 0 i j = false := by
   cases e : hit bit w (sbit a) n.toNat 0 i j with
   | false => rfl
   | true => exact absurd (hit_below (by omega) _ _ _ _ _ e) hj8
  rw [decide_eq_false hj8, hh]
  split
  ·simp
  ·split <;> simp
theorem keeps {s b len bit n w u : Int} (h : VF s b len bit n w u) (u0 : u = 0) (a : ByteArray) (x : List Int) (hx : (x.length : Int) = numU bit n w) {i : Int} (hi : 0 ≤ i) (hi2 : i < numU bit n w) : Go.bits .andNot .u64 (Go.bits .and .u64 (Go.bits .xor .u64 (rd (inOf s b len bit n w u a x) i) (rd x i)) (fullW w)) (rd (masksOf s b len bit n w u) i) = 0 := by
 have hw : w = 1 ∨ w = 2 ∨ w = 4 ∨ w = 8 := by unfold VF at h; exact h.2.2.2.2.2.1
 refine B_none _ _ _ fun j hj => ?_
 rw [B_andNot _ _ _ hj, B_and, B_xor, B_full hw j hj, in_bits h a x hx hi hi2 hj, mask_bits h hi hj, if_pos u0]
 cases hm : hit bit w (fun _ => 1) n.toNat 0 i j with
 | true => simp
 | false =>
  have hh : hit bit w (sbit a) n.toNat 0 i j = false := by
   cases e : hit bit w (sbit a) n.toNat 0 i j with
   | false => rfl
   | true => rw [hit_mono bit w _ _ _ _ _ e] at hm; exact hm
  rw [hh]
  cases B (rd x i) j <;> cases decide ((j : Int) < 8 * w) <;> rfl
theorem round_loop {s b len bit n w u i d : Int} (h : VF s b len bit n w u) (a : ByteArray) (x : List Int) (hx : (x.length : Int) = numU bit n w) : ∀ (e : Nat) (j : Int) (q : Nat), 0 ≤ j → j + e = numU bit n w → 2 * e < q →
  platformfwlaw11_FieldRoundTrip.l0 q (numU bit n w) x (inOf s b len bit n w u a x) (masksOf s b len bit n w u) j s b len bit n w u i d = some true := by
 have hn := numU_bd h
 have hm := masksOf_length h
 have hlen : ((inOf s b len bit n w u a x).length : Int) = numU bit n w := by
  unfold inOf; rw [if_pos ⟨h, hx⟩, gloop_length, List.length_map, List.length_range]; exact hm
 intro e
 induction e with
 | zero =>
  intro j q h0 hj hq
  obtain ⟨q, rfl⟩ : ∃ m, q = m + 1 := ⟨q - 1, by omega⟩
  simp only [platformfwlaw11_FieldRoundTrip.l0]; rw [if_neg (by omega)]
 | succ e ih =>
  intro j q h0 hj hq
  obtain ⟨q, rfl⟩ : ∃ m, q = m + 2 := ⟨q - 2, by omega⟩
  have nxt : platformfwlaw11_FieldRoundTrip.j2 (q + 1) (numU bit n w) x (inOf s b len bit n w u a x) (masksOf s b len bit n w u) j ((Go.bits .andNot .u64 (rd (inOf s b len bit n w u a x) j) (fullW w)) != 0) s b len bit n w u i d = some true := by
   simp only [platformfwlaw11_FieldRoundTrip.j2]
   rw [over_full h a x hx h0 (by omega), if_neg (by decide), wrap64_id (a := j + 1) (by omega) (by omega)]
   exact ih (j + 1) q (by omega) (by omega) (by omega)
  simp only [platformfwlaw11_FieldRoundTrip.l0]
  rw [if_pos (by omega)]
  by_cases u0 : u = 0
  ·rw [if_pos u0, if_pos h0, if_pos (by omega), if_pos (by omega), (full_eq (i := 0) (d := 0) h).2, Option.bind_some, if_pos (by omega), if_pos (keeps h u0 a x hx h0 (by omega)), Option.bind_some]
   exact nxt
  ·rw [if_neg u0, if_pos h0, if_pos (by omega), (full_eq (i := 0) (d := 0) h).2, Option.bind_some]
   exact nxt
theorem FieldRoundTrip : St.FieldRoundTrip := by
 intro s b len bit n w u i d _ a _ _ x _ hb hl _ _ _ _ _ _ _ _ _ _ _
 have hb' := wf_u64 hb
 have hl' := wf_u64 hl
 obtain ⟨s', b', len', bit', n', w', u', i', d', he, h1, h2, h3, h4⟩ := spec_ex (s := s) (bit := bit) (n := n) (w := w) (u := u) (i := i) (d := d) hb'.1 hb'.2 hl'.1 hl'.2 2000 (by omega)
 refine ⟨2000, ?_⟩
 unfold platformfwlaw11_FieldRoundTrip.f
 rw [he, Option.bind_some]
 simp only
 rw [show platformfwref08_Number.f a = some (1, a, (⟨#[]⟩ : ByteArray), 0) from rfl, Option.bind_some]
 simp only
 rcases value_ex (s := s') (bit := bit') (n := n') (w := w') (u := u') (i := i') (d := d') h1 h2 h3 h4 2000 (by omega) a with ⟨hv, hf⟩ | ⟨hv, y, hf⟩
 ·rw [hf, Option.bind_some]
  simp only
  rw [if_neg (by decide), awake11_at 2000 (by omega), Option.bind_some]
 ·have hn := numU_bd hv
  obtain ⟨r, hr, hrl⟩ := fit_len x (m := numU bit' n' w') (by omega) (by omega)
  have hlen : ∀ aa, ((inOf s' b' len' bit' n' w' u' aa r).length : Int) = numU bit' n' w' := by
   intro aa; unfold inOf; rw [if_pos ⟨hv, hrl⟩, gloop_length, List.length_map, List.length_range]; exact masksOf_length hv
  rw [hf, Option.bind_some]
  simp only
  rw [if_pos trivial, refUnits_eq h1 h2 h3 h4 2000 (by omega), Option.bind_some, if_pos hv]
  simp only
  rw [hr, Option.bind_some, fieldInsert_eq h1 h2 h3 h4 2000 (by omega), Option.bind_some, awake11_at 2000 (by omega), Option.bind_some, if_pos rfl, fieldExtract_eq h1 h2 h3 h4 2000 (by omega), Option.bind_some, ex_in hv (sbit y) (sbit_two y) r hrl, if_pos rfl]
  simp only [platformfwlaw11_FieldRoundTrip.j0]
  rw [if_neg (by rw [hlen]; simp), refMasks_eq h1 h2 h3 h4 1999 (by omega), Option.bind_some]
  exact round_loop hv _ r hrl (numU bit' n' w').toNat 0 1999 (by omega) (by omega) (by omega)
end Go.Proofs.Ytmnmidclaaiffaa.Pure
