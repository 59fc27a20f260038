/- FieldPlans: Valid, Units, Masks, Accesses and ReadsBeforeWrite return the specified results, for every field and for the mostly valid one made out of it -/
import Derived.Test.YtmnmidclaaiffaaStFieldPlans
import Derived.Test.YtmnmidclaaiffaaBytes
import Derived.Test.YtmnmidclaaiffaaExt
namespace Go.Proofs.Ytmnmidclaaiffaa.Pure
open Go.RowKit Go.Proofs.Ytmnmidclaaiffaa.PFieldPlans Go.Proofs.YtmnmidclaaiffaaW.PrintWords Go.Proofs.YtmnmidclaaiffaaW.PrintLast Go.Proofs.YtmnmidclaaiffaaW.PrintMore Go.Proofs.Ytmnmidclaaiffaa.Plain
open Go.Proofs.Ytmnmidclaaiffaa.Ext
set_option linter.unusedVariables false
set_option linter.unusedSimpArgs false
/-! ### layer 11: which fields are valid, and the units of a field -/
/-- A valid field: space s, base b, length len, first bit, bits n, width w, update u. -/
def VF (s b len bit n w u : Int) : Prop :=
  (s = 0 ∨ s = 1 ∨ s = 3) ∧ 1 ≤ len ∧ len ≤ 1048576 ∧ b ≤ 18446744073709551615 - (len - 1) ∧ (s = 3 → b ≤ 255 ∧ b + len ≤ 256 ∧ w = 1) ∧ (w = 1 ∨ w = 2 ∨ w = 4 ∨ w = 8) ∧ b % w = 0 ∧ 0 ≤ u ∧ u ≤ 2 ∧ 0 ≤ bit ∧ bit < 8388608 ∧ 1 ≤ n ∧ n ≤ 256 ∧ ((bit + n - 1) / (8 * w) + 1) * w ≤ len
instance (s b len bit n w u : Int) : Decidable (VF s b len bit n w u) := by unfold VF; infer_instance
theorem tdiv_pos {a b : Int} (h : 0 ≤ a) : Int.tdiv a b = a / b := Int.tdiv_eq_ediv_of_nonneg h
theorem tmod_pos {a b : Int} (h : 0 ≤ a) : Int.tmod a b = a % b := Int.tmod_eq_emod_of_nonneg h
/-- The last test of both: the end of the last unit. -/
theorem end_eq {bit n w len : Int} (hw : w = 1 ∨ w = 2 ∨ w = 4 ∨ w = 8) (hb : 0 ≤ bit) (hb2 : bit ≤ 8388608) (hn : 1 ≤ n) (hn2 : n ≤ 256) :
    wrap64 (8 * w) = 8 * w ∧ (IntKind.u64.wrap (wrap64 ((wrap64 ((wrap64 (Int.tdiv (wrap64 ((wrap64 (bit + n)) - 1)) (wrap64 (8 * w)))) + 1)) * w))) = ((bit + n - 1) / (8 * w) + 1) * w := by
  have h8 : wrap64 (8 * w) = 8 * w := wrap64_id (by omega) (by omega)
  refine ⟨h8, ?_⟩
  rw [h8, wrap64_id (a := bit + n) (by omega) (by omega), wrap64_id (a := bit + n - 1) (by omega) (by omega), tdiv_pos (by omega)]
  rcases hw with rfl | rfl | rfl | rfl
  all_goals
    rw [wrap64_id (a := _ / _) (by omega) (by omega), wrap64_id (a := _ / _ + 1) (by omega) (by omega), wrap64_id (by omega) (by omega), wrap_u64_id (by omega) (by omega)]
theorem end_big {bit n w len : Int} (hw : w = 1 ∨ w = 2 ∨ w = 4 ∨ w = 8) (hb : bit = 8388608) (hn : 1 ≤ n) (hl : len ≤ 1048576) : ¬ ((bit + n - 1) / (8 * w) + 1) * w ≤ len := by
  rcases hw with rfl | rfl | rfl | rfl <;> omega
theorem validRegion_eq {s b len w : Int} (hb : 0 ≤ b) (hb2 : b < 18446744073709551616) (hl : 0 ≤ len) (hl2 : len < 18446744073709551616) (hw : w = 1 ∨ w = 2 ∨ w = 4 ∨ w = 8) (k : Nat) (hk : 3 ≤ k) :
    field_validRegion.f k s b len w = some (decide ((s = 0 ∨ s = 1 ∨ s = 3) ∧ 1 ≤ len ∧ len ≤ 1048576 ∧ b ≤ 18446744073709551615 - (len - 1) ∧ (s = 3 → b ≤ 255 ∧ b + len ≤ 256 ∧ w = 1) ∧ b % w = 0)) := by
  obtain ⟨k, rfl⟩ : ∃ m, k = m + 3 := ⟨k - 3, by omega⟩
  have hu : IntKind.u64.wrap w = w := wrap_u64_id (by omega) (by omega)
  unfold field_validRegion.f
  have bad : field_validRegion.j0 (k + 3) w true s b len = some false := by simp only [field_validRegion.j0]; rw [if_pos trivial]
  by_cases h1 : len < 1
  · rw [if_pos h1, bad]; congr 1; symm; rw [decide_eq_false_iff_not]; omega
  rw [if_neg h1]
  by_cases h2 : len > 1048576
  · rw [if_pos h2, bad]; congr 1; symm; rw [decide_eq_false_iff_not]; omega
  rw [if_neg h2, wrap_u64_id (a := len - 1) (by omega) (by omega), wrap_u64_id (a := 18446744073709551615 - b) (by omega) (by omega)]
  by_cases h3 : len - 1 > 18446744073709551615 - b
  · rw [if_pos h3, bad]; congr 1; symm; rw [decide_eq_false_iff_not]; omega
  rw [if_neg h3, hu, if_neg (by omega), tmod_pos hb]
  simp only [field_validRegion.j0]
  by_cases h4 : b % w = 0
  case neg =>
    rw [if_pos (by simpa using h4)]; congr 1; symm; rw [decide_eq_false_iff_not]; omega
  rw [if_neg (by simp [h4])]
  have fin : ∀ c : Bool, (c = true ↔ (s = 0 ∨ s = 1)) → field_validRegion.j1 (k + 2) w s c s b len = some (decide ((s = 0 ∨ s = 1 ∨ s = 3) ∧ 1 ≤ len ∧ len ≤ 1048576 ∧ b ≤ 18446744073709551615 - (len - 1) ∧ (s = 3 → b ≤ 255 ∧ b + len ≤ 256 ∧ w = 1) ∧ b % w = 0)) := by
    intro c hc
    simp only [field_validRegion.j1]
    by_cases h5 : s = 0 ∨ s = 1
    · rw [if_pos (hc.2 h5)]; congr 1; symm; rw [decide_eq_true_iff]; omega
    rw [if_neg (fun h => h5 (hc.1 h))]
    by_cases h6 : s = 3
    · rw [if_pos h6]
      by_cases h7 : w = 1
      · rw [if_pos h7]
        by_cases h8 : b < 256
        · rw [if_pos h8, wrap_u64_id (by omega) (by omega)]; congr 1; rw [decide_eq_decide]; omega
        · rw [if_neg h8]; congr 1; symm; rw [decide_eq_false_iff_not]; omega
      · rw [if_neg h7]; congr 1; symm; rw [decide_eq_false_iff_not]; omega
    · rw [if_neg h6]; congr 1; symm; rw [decide_eq_false_iff_not]; omega
  by_cases h5 : s = 0
  · rw [if_pos h5]; exact fin _ (by simp [h5])
  · rw [if_neg h5]; exact fin _ (by simp; omega)
theorem fieldValid_eq {s b len bit n w u i d : Int} (hb : 0 ≤ b) (hb2 : b < 18446744073709551616) (hl : 0 ≤ len) (hl2 : len < 18446744073709551616) (k : Nat) (hk : 6 ≤ k) :
    field_Valid.f k s b len bit n w u i d = some (decide (VF s b len bit n w u)) := by
  obtain ⟨k, rfl⟩ : ∃ m, k = m + 6 := ⟨k - 6, by omega⟩
  have key : (w = 1 ∨ w = 2 ∨ w = 4 ∨ w = 8) → field_Valid.j0 (k + 6) s b len bit n w u i d = some (decide (VF s b len bit n w u)) := by
    intro hw
    have bad : ¬ VF s b len bit n w u → field_Valid.j1 (k + 5) true s b len bit n w u i d = some (decide (VF s b len bit n w u)) := by
      intro h; simp only [field_Valid.j1]; rw [if_pos trivial]; congr 1; symm; rw [decide_eq_false_iff_not]; exact h
    simp only [field_Valid.j0]
    rw [validRegion_eq hb hb2 hl hl2 hw (k + 5) (by omega), Option.bind_some]
    by_cases h1 : ((s = 0 ∨ s = 1 ∨ s = 3) ∧ 1 ≤ len ∧ len ≤ 1048576 ∧ b ≤ 18446744073709551615 - (len - 1) ∧ (s = 3 → b ≤ 255 ∧ b + len ≤ 256 ∧ w = 1) ∧ b % w = 0)
    case neg => rw [if_neg (by rw [decide_eq_true_iff]; exact h1)]; exact bad (fun h => h1 (by unfold VF at h; exact ⟨h.1, h.2.1, h.2.2.1, h.2.2.2.1, h.2.2.2.2.1, h.2.2.2.2.2.2.1⟩))
    rw [if_pos (by rw [decide_eq_true_iff]; exact h1)]
    by_cases h2 : u < 0
    · rw [if_pos h2]; exact bad (fun h => by unfold VF at h; omega)
    rw [if_neg h2]
    by_cases h3 : u > 2
    · rw [if_pos h3]; exact bad (fun h => by unfold VF at h; omega)
    rw [if_neg h3]
    by_cases h4 : n < 1
    · rw [if_pos h4]; exact bad (fun h => by unfold VF at h; omega)
    rw [if_neg h4]
    by_cases h5 : n > 256
    · rw [decide_eq_true h5]; exact bad (fun h => by unfold VF at h; omega)
    rw [decide_eq_false h5]
    simp only [field_Valid.j1]
    rw [if_neg (by decide)]
    by_cases h6 : bit < 0
    · rw [if_pos h6]; congr 1; symm; rw [decide_eq_false_iff_not]; intro h; unfold VF at h; omega
    rw [if_neg h6]
    by_cases h7 : bit ≥ 8388608
    · rw [if_pos h7]; congr 1; symm; rw [decide_eq_false_iff_not]; intro h; unfold VF at h; omega
    rw [if_neg h7]
    obtain ⟨e1, e2⟩ := end_eq (len := len) hw (bit := bit) (n := n) (by omega) (by omega) (by omega) (by omega)
    rw [e2, e1, if_neg (by omega)]
    congr 1; rw [decide_eq_decide]; unfold VF
    constructor
    · intro h; exact ⟨h1.1, h1.2.1, h1.2.2.1, h1.2.2.2.1, h1.2.2.2.2.1, hw, h1.2.2.2.2.2, by omega, by omega, by omega, by omega, by omega, by omega, h⟩
    · intro h; exact h.2.2.2.2.2.2.2.2.2.2.2.2.2
  unfold field_Valid.f
  by_cases w1 : w = 1
  · rw [if_pos w1]; exact key (by omega)
  rw [if_neg w1]
  by_cases w2 : w = 2
  · rw [if_pos w2]; exact key (by omega)
  rw [if_neg w2]
  by_cases w4 : w = 4
  · rw [if_pos w4]; exact key (by omega)
  rw [if_neg w4]
  by_cases w8 : w = 8
  · rw [if_pos w8]; exact key (by omega)
  rw [if_neg w8]
  congr 1; symm; rw [decide_eq_false_iff_not]; intro h; unfold VF at h; omega
theorem refValid_eq {s b len bit n w u i d : Int} (hb : 0 ≤ b) (hb2 : b < 18446744073709551616) (hl : 0 ≤ len) (hl2 : len < 18446744073709551616) (k : Nat) (hk : 6 ≤ k) :
    platformfwref09_ValidField.f k s b len bit n w u i d = some (decide (VF s b len bit n w u)) := by
  obtain ⟨k, rfl⟩ : ∃ m, k = m + 6 := ⟨k - 6, by omega⟩
  have no : ¬ VF s b len bit n w u → some false = some (decide (VF s b len bit n w u)) := fun h => by congr 1; symm; rw [decide_eq_false_iff_not]; exact h
  have bad0 : ¬ VF s b len bit n w u → platformfwref09_ValidField.j0 (k + 6) true s b len bit n w u i d s b len = some (decide (VF s b len bit n w u)) := by
    intro h; simp only [platformfwref09_ValidField.j0]; rw [if_pos trivial]; exact no h
  have bad1 : ¬ VF s b len bit n w u → platformfwref09_ValidField.j1 (k + 5) true s b len bit n w u i d s b len = some (decide (VF s b len bit n w u)) := by
    intro h; simp only [platformfwref09_ValidField.j1]; rw [if_pos trivial]; exact no h
  have bad2 : ¬ VF s b len bit n w u → platformfwref09_ValidField.j2 (k + 4) true s b len bit n w u i d s b len = some (decide (VF s b len bit n w u)) := by
    intro h; simp only [platformfwref09_ValidField.j2]; rw [if_pos trivial]; exact no h
  have key2 : (s = 0 ∨ s = 1 ∨ s = 3) → 1 ≤ len → len ≤ 1048576 → b ≤ 18446744073709551615 - (len - 1) → (s = 3 → b ≤ 255 ∧ b + len ≤ 256 ∧ w = 1) → (w = 1 ∨ w = 2 ∨ w = 4 ∨ w = 8) → b % w = 0 → 0 ≤ u →
      platformfwref09_ValidField.j2 (k + 4) (decide (u > 2)) s b len bit n w u i d s b len = some (decide (VF s b len bit n w u)) := by
    intro a1 a2 a3 a4 a5 hw a7 a8
    by_cases h1 : u > 2
    · rw [decide_eq_true h1]; exact bad2 (fun h => by unfold VF at h; omega)
    rw [decide_eq_false h1]
    simp only [platformfwref09_ValidField.j2]
    rw [if_neg (by decide)]
    by_cases h2 : bit < 0
    · rw [if_pos h2]; exact no (fun h => by unfold VF at h; omega)
    rw [if_neg h2]
    by_cases h3 : bit > 8388608
    · rw [if_pos h3]; exact no (fun h => by unfold VF at h; omega)
    rw [if_neg h3]
    by_cases h4 : n < 1
    · rw [if_pos h4]; exact no (fun h => by unfold VF at h; omega)
    rw [if_neg h4]
    by_cases h5 : n > 256
    · rw [if_pos h5]; exact no (fun h => by unfold VF at h; omega)
    rw [if_neg h5]
    obtain ⟨e1, e2⟩ := end_eq (len := len) hw (bit := bit) (n := n) (by omega) (by omega) (by omega) (by omega)
    rw [e2, e1, if_neg (by omega)]
    congr 1; rw [decide_eq_decide]; unfold VF
    constructor
    · intro h
      have : bit ≠ 8388608 := fun hb => end_big hw hb (n := n) (by omega) a3 h
      exact ⟨a1, a2, a3, a4, a5, hw, a7, a8, by omega, by omega, by omega, by omega, by omega, h⟩
    · intro h; exact h.2.2.2.2.2.2.2.2.2.2.2.2.2
  have key1 : (s = 0 ∨ s = 1 ∨ s = 3) → 1 ≤ len → len ≤ 1048576 → b ≤ 18446744073709551615 - (len - 1) → (s = 3 → b ≤ 255 ∧ b + len ≤ 256 ∧ w = 1) →
      platformfwref09_ValidField.j1 (k + 5) false s b len bit n w u i d s b len = some (decide (VF s b len bit n w u)) := by
    intro a1 a2 a3 a4 a5
    have each : (w = 1 ∨ w = 2 ∨ w = 4 ∨ w = 8) → (if (IntKind.u64.wrap (w)) = 0 then (none) else (if (Int.tmod b (IntKind.u64.wrap (w))) = 0 then (if u < 0 then (platformfwref09_ValidField.j2 (k + 4) true s b len bit n w u i d s b len) else (platformfwref09_ValidField.j2 (k + 4) (decide (u > 2)) s b len bit n w u i d s b len)) else (platformfwref09_ValidField.j2 (k + 4) true s b len bit n w u i d s b len))) = some (decide (VF s b len bit n w u)) := by
      intro hw
      rw [wrap_u64_id (a := w) (by omega) (by omega), if_neg (by omega), tmod_pos hb]
      by_cases h1 : b % w = 0
      · rw [if_pos h1]
        by_cases h2 : u < 0
        · rw [if_pos h2]; exact bad2 (fun h => by unfold VF at h; omega)
        · rw [if_neg h2]; exact key2 a1 a2 a3 a4 a5 hw h1 (by omega)
      · rw [if_neg h1]; exact bad2 (fun h => by unfold VF at h; exact h1 h.2.2.2.2.2.2.1)
    simp only [platformfwref09_ValidField.j1]
    rw [if_neg (by decide)]
    by_cases w1 : w = 1
    · rw [if_pos w1]; exact each (by omega)
    rw [if_neg w1]
    by_cases w2 : w = 2
    · rw [if_pos w2]; exact each (by omega)
    rw [if_neg w2]
    by_cases w4 : w = 4
    · rw [if_pos w4]; exact each (by omega)
    rw [if_neg w4]
    by_cases w8 : w = 8
    · rw [if_pos w8]; exact each (by omega)
    rw [if_neg w8]; exact bad2 (fun h => by unfold VF at h; omega)
  have key0 : (s = 0 ∨ s = 1 ∨ s = 3) → (if len < 1 then (platformfwref09_ValidField.j0 (k + 6) true s b len bit n w u i d s b len) else (if len > 1048576 then (platformfwref09_ValidField.j0 (k + 6) true s b len bit n w u i d s b len) else (platformfwref09_ValidField.j0 (k + 6) (decide (b > (IntKind.u64.wrap (18446744073709551615 - (IntKind.u64.wrap (len - 1)))))) s b len bit n w u i d s b len))) = some (decide (VF s b len bit n w u)) := by
    intro a1
    by_cases h1 : len < 1
    · rw [if_pos h1]; exact bad0 (fun h => by unfold VF at h; omega)
    rw [if_neg h1]
    by_cases h2 : len > 1048576
    · rw [if_pos h2]; exact bad0 (fun h => by unfold VF at h; omega)
    rw [if_neg h2, wrap_u64_id (a := len - 1) (by omega) (by omega), wrap_u64_id (a := 18446744073709551615 - (len - 1)) (by omega) (by omega)]
    by_cases h3 : b > 18446744073709551615 - (len - 1)
    · rw [decide_eq_true h3]; exact bad0 (fun h => by unfold VF at h; omega)
    rw [decide_eq_false h3]
    simp only [platformfwref09_ValidField.j0]
    rw [if_neg (by decide)]
    by_cases h4 : s = 3
    · rw [if_pos h4]
      by_cases h5 : b > 255
      · rw [if_pos h5]; exact bad1 (fun h => by unfold VF at h; omega)
      rw [if_neg h5, wrap_u64_id (a := b + len) (by omega) (by omega)]
      by_cases h6 : b + len > 256
      · rw [if_pos h6]; exact bad1 (fun h => by unfold VF at h; omega)
      rw [if_neg h6]
      by_cases h7 : w = 1
      · rw [show (w != 1) = false by simp [h7]]; exact key1 a1 (by omega) (by omega) (by omega) (by omega)
      · rw [show (w != 1) = true by simp [h7]]; exact bad1 (fun h => by unfold VF at h; omega)
    · rw [if_neg h4]; exact key1 a1 (by omega) (by omega) (by omega) (by omega)
  unfold platformfwref09_ValidField.f
  by_cases s0 : s = 0
  · rw [if_pos s0]; exact key0 (by omega)
  rw [if_neg s0]
  by_cases s1 : s = 1
  · rw [if_pos s1]; exact key0 (by omega)
  rw [if_neg s1]
  by_cases s3 : s = 3
  · rw [if_pos s3]; exact key0 (by omega)
  rw [if_neg s3]; exact bad0 (fun h => by unfold VF at h; omega)
/-- The first unit and the number of units. -/
def fstU (bit w : Int) : Int := bit / (8 * w)
def numU (bit n w : Int) : Int := (bit + n - 1) / (8 * w) - bit / (8 * w) + 1
theorem numU_bd {s b len bit n w u : Int} (h : VF s b len bit n w u) : 1 ≤ numU bit n w ∧ numU bit n w ≤ 257 ∧ 0 ≤ fstU bit w ∧ fstU bit w < 1048577 := by
  unfold VF at h; unfold numU fstU
  rcases h.2.2.2.2.2.1 with rfl | rfl | rfl | rfl <;> omega
theorem units_raw {s b len bit n w u : Int} (h : VF s b len bit n w u) : wrap64 (8 * w) = 8 * w ∧ 8 * w ≠ 0 ∧ wrap64 (Int.tdiv bit (wrap64 (8 * w))) = fstU bit w ∧ wrap64 ((wrap64 ((wrap64 (Int.tdiv (wrap64 ((wrap64 (bit + n)) - 1)) (wrap64 (8 * w)))) - (wrap64 (Int.tdiv bit (wrap64 (8 * w)))))) + 1) = numU bit n w := by
  unfold VF at h; unfold numU fstU
  have h8 : wrap64 (8 * w) = 8 * w := wrap64_id (by omega) (by omega)
  refine ⟨h8, by omega, ?_, ?_⟩
  · rw [h8, tdiv_pos (by omega)]
    rcases h.2.2.2.2.2.1 with rfl | rfl | rfl | rfl <;> exact wrap64_id (by omega) (by omega)
  · rw [h8, wrap64_id (a := bit + n) (by omega) (by omega), wrap64_id (a := bit + n - 1) (by omega) (by omega), tdiv_pos (by omega), tdiv_pos (by omega)]
    rcases h.2.2.2.2.2.1 with rfl | rfl | rfl | rfl
    all_goals
      rw [wrap64_id (a := (bit + n - 1) / _) (by omega) (by omega), wrap64_id (a := bit / _) (by omega) (by omega), wrap64_id (a := _ / _ - _ / _) (by omega) (by omega), wrap64_id (by omega) (by omega)]
theorem fieldUnits_eq {s b len bit n w u i d : Int} (hb : 0 ≤ b) (hb2 : b < 18446744073709551616) (hl : 0 ≤ len) (hl2 : len < 18446744073709551616) (k : Nat) (hk : 6 ≤ k) :
    field_Units.f k s b len bit n w u i d = some (if VF s b len bit n w u then (fstU bit w, numU bit n w) else (0, 0)) := by
  unfold field_Units.f
  rw [fieldValid_eq hb hb2 hl hl2 k hk, Option.bind_some]
  by_cases h : VF s b len bit n w u
  · obtain ⟨e1, e2, e3, e4⟩ := units_raw h
    rw [decide_eq_true h, if_pos rfl, if_pos h, e4, e3, e1, if_neg e2]
  · rw [decide_eq_false h, if_neg (by decide), if_neg h]
theorem refUnits_eq {s b len bit n w u i d : Int} (hb : 0 ≤ b) (hb2 : b < 18446744073709551616) (hl : 0 ≤ len) (hl2 : len < 18446744073709551616) (k : Nat) (hk : 6 ≤ k) :
    platformfwref09_Units.f k s b len bit n w u i d = some (if VF s b len bit n w u then (fstU bit w, numU bit n w) else (0, 0)) := by
  unfold platformfwref09_Units.f
  rw [refValid_eq hb hb2 hl hl2 k hk, Option.bind_some]
  by_cases h : VF s b len bit n w u
  · obtain ⟨e1, e2, e3, e4⟩ := units_raw h
    rw [decide_eq_true h, if_pos rfl, if_pos h, e4, e3, e1, if_neg e2]
  · rw [decide_eq_false h, if_neg (by decide), if_neg h]
/-! ### layer 11: where a field's bits lie; loops that put bits into units -/
def uOf (bit w k : Int) : Int := (bit + k) / (8 * w) - bit / (8 * w)
def pOf (bit w k : Int) : Int := (bit + k) % (8 * w)
theorem uOf_bd {s b len bit n w u : Int} (h : VF s b len bit n w u) {k : Int} (h0 : 0 ≤ k) (h1 : k < n) : 0 ≤ uOf bit w k ∧ uOf bit w k < numU bit n w ∧ 0 ≤ pOf bit w k ∧ pOf bit w k < 8 * w ∧ 8 * w ≤ 64 := by
  unfold VF at h; unfold uOf pOf numU
  rcases h.2.2.2.2.2.1 with rfl | rfl | rfl | rfl <;> omega
theorem pos_raw {s b len bit n w u : Int} (h : VF s b len bit n w u) {k : Int} (h0 : 0 ≤ k) (h1 : k < n) : wrap64 (8 * w) = 8 * w ∧ ¬ 8 * w = 0 ∧ wrap64 (bit + k) = bit + k ∧ wrap64 (Int.tdiv (bit + k) (8 * w)) = (bit + k) / (8 * w) ∧ Int.tmod (bit + k) (8 * w) = pOf bit w k ∧ wrap64 (Int.tdiv bit (8 * w)) = fstU bit w ∧ wrap64 ((bit + k) / (8 * w) - fstU bit w) = uOf bit w k := by
  have hb := uOf_bd h h0 h1
  have hn := numU_bd h
  unfold VF at h; unfold uOf pOf numU fstU at *
  refine ⟨wrap64_id (by omega) (by omega), by omega, wrap64_id (by omega) (by omega), ?_, tmod_pos (by omega), ?_, wrap64_id (by omega) (by omega)⟩
  · rw [tdiv_pos (by omega)]
    rcases h.2.2.2.2.2.1 with rfl | rfl | rfl | rfl <;> exact wrap64_id (by omega) (by omega)
  · rw [tdiv_pos (by omega)]
    rcases h.2.2.2.2.2.1 with rfl | rfl | rfl | rfl <;> exact wrap64_id (by omega) (by omega)
theorem pos_eq {s b len bit n w u i d : Int} (h : VF s b len bit n w u) {k : Int} (h0 : 0 ≤ k) (h1 : k < n) : field_position.f s b len bit n w u i d k = some (uOf bit w k, pOf bit w k) := by
  obtain ⟨e1, e2, e3, e4, e5, e6, e7⟩ := pos_raw h h0 h1
  unfold field_position.f
  rw [e1, if_neg e2, e3, e4, e5, e6, e7]
/-- Bit after bit goes into its unit: d bits from bit k on; v tells them. -/
def gloop (bit w : Int) (v : Int → Int) : Nat → Int → List Int → List Int
  | 0, _, l => l
  | d + 1, k, l => gloop bit w v d (k + 1) (l.set (uOf bit w k).toNat (Go.bits .or .u64 (rd l (uOf bit w k)) (shl .u64 (v k) (pOf bit w k))))
theorem gloop_length (bit w : Int) (v : Int → Int) : ∀ (d : Nat) (k : Int) (l : List Int), (gloop bit w v d k l).length = l.length
  | 0, _, _ => rfl
  | d + 1, k, l => by rw [gloop, gloop_length bit w v d, List.length_set]
theorem fieldMasks_loop {s b len bit n w u i d : Int} (h : VF s b len bit n w u) : ∀ (e : Nat) (k : Int) (q : Nat) (l : List Int), 0 ≤ k → k + e = n → e < q → (l.length : Int) = numU bit n w →
    field_Masks.l0 q l n k s b len bit n w u i d = some (gloop bit w (fun _ => 1) e k l) := by
  intro e
  induction e with
  | zero =>
    intro k q l h0 hk hq hl
    obtain ⟨q, rfl⟩ : ∃ m, q = m + 1 := ⟨q - 1, by omega⟩
    simp only [field_Masks.l0]; rw [if_neg (by omega)]; rfl
  | succ e ih =>
    intro k q l h0 hk hq hl
    obtain ⟨q, rfl⟩ : ∃ m, q = m + 1 := ⟨q - 1, by omega⟩
    have hb := uOf_bd h h0 (show k < n by omega)
    have hn : n ≤ 256 := by unfold VF at h; omega
    simp only [field_Masks.l0]
    rw [if_pos (by omega), pos_eq h h0 (by omega), Option.bind_some, if_pos hb.1, if_pos (by omega), if_pos hb.2.2.1, wrap64_id (a := k + 1) (by omega) (by omega)]
    exact ih (k + 1) q _ (by omega) (by omega) (by omega) (by rw [List.length_set]; exact hl)
theorem refMasks_loop {s b len bit n w u i d : Int} (h : VF s b len bit n w u) : ∀ (e : Nat) (k : Int) (q : Nat) (l : List Int), 0 ≤ k → k + e = n → e < q → (l.length : Int) = numU bit n w →
    platformfwref09_Masks.l0 q (fstU bit w) l k s b len bit n w u i d = some (gloop bit w (fun _ => 1) e k l) := by
  intro e
  induction e with
  | zero =>
    intro k q l h0 hk hq hl
    obtain ⟨q, rfl⟩ : ∃ m, q = m + 1 := ⟨q - 1, by omega⟩
    simp only [platformfwref09_Masks.l0]; rw [if_neg (by omega)]; rfl
  | succ e ih =>
    intro k q l h0 hk hq hl
    obtain ⟨q, rfl⟩ : ∃ m, q = m + 1 := ⟨q - 1, by omega⟩
    have hb := uOf_bd h h0 (show k < n by omega)
    have hn : n ≤ 256 := by unfold VF at h; omega
    obtain ⟨e1, e2, e3, e4, e5, e6, e7⟩ := pos_raw h h0 (show k < n by omega)
    simp only [platformfwref09_Masks.l0]
    rw [if_pos (by omega), e1, if_neg e2, e3, e4, e5, e7, if_pos hb.1, if_pos (by omega), wrap_u64_id (a := pOf bit w k) (by omega) (by omega), if_pos hb.2.2.1, wrap64_id (a := k + 1) (by omega) (by omega)]
    exact ih (k + 1) q _ (by omega) (by omega) (by omega) (by rw [List.length_set]; exact hl)
/-- The masks of a field. -/
def masksOf (s b len bit n w u : Int) : List Int := if VF s b len bit n w u then gloop bit w (fun _ => 1) n.toNat 0 (List.replicate (numU bit n w).toNat 0) else []
theorem masksOf_length {s b len bit n w u : Int} (h : VF s b len bit n w u) : ((masksOf s b len bit n w u).length : Int) = numU bit n w := by
  have := numU_bd h
  unfold masksOf; rw [if_pos h, gloop_length, List.length_replicate]; omega
theorem fieldMasks_eq {s b len bit n w u i d : Int} (hb : 0 ≤ b) (hb2 : b < 18446744073709551616) (hl : 0 ≤ len) (hl2 : len < 18446744073709551616) (k : Nat) (hk : 300 ≤ k) :
    field_Masks.f k s b len bit n w u i d = some (masksOf s b len bit n w u) := by
  unfold field_Masks.f masksOf
  rw [fieldUnits_eq hb hb2 hl hl2 k (by omega), Option.bind_some]
  by_cases h : VF s b len bit n w u
  · have hn := numU_bd h
    have hn2 : 1 ≤ n ∧ n ≤ 256 := by unfold VF at h; omega
    rw [if_pos h, if_pos h]
    simp only
    rw [if_pos (by omega), if_pos (by omega), Option.bind_some, if_pos (by omega)]
    exact fieldMasks_loop h n.toNat 0 k _ (by omega) (by omega) (by omega) (by rw [List.length_replicate]; omega)
  · rw [if_neg h, if_neg h]; rfl
theorem refMasks_eq {s b len bit n w u i d : Int} (hb : 0 ≤ b) (hb2 : b < 18446744073709551616) (hl : 0 ≤ len) (hl2 : len < 18446744073709551616) (k : Nat) (hk : 300 ≤ k) :
    platformfwref09_Masks.f k s b len bit n w u i d = some (masksOf s b len bit n w u) := by
  unfold platformfwref09_Masks.f masksOf
  rw [refUnits_eq hb hb2 hl hl2 k (by omega), Option.bind_some]
  by_cases h : VF s b len bit n w u
  · have hn := numU_bd h
    have hn2 : 1 ≤ n ∧ n ≤ 256 := by unfold VF at h; omega
    rw [if_pos h, if_pos h]
    simp only
    rw [if_pos (by omega), if_pos (by omega), Option.bind_some, if_pos (by omega)]
    exact refMasks_loop h n.toNat 0 k _ (by omega) (by omega) (by omega) (by rw [List.length_replicate]; omega)
  · rw [if_neg h, if_neg h]; rfl
theorem equal_u64 (l : List Int) (hl : l.length ≤ 1000000) (k : Nat) (hk : l.length < k) : platformfwhelp_Equal_uint64.f k l l = some true := by
  have loop : ∀ (e : Nat) (i q : Nat), i + e = l.length → e < q → platformfwhelp_Equal_uint64.l0 q l l i = some true := by
    intro e
    induction e with
    | zero =>
      intro i q hi hq
      obtain ⟨q, rfl⟩ : ∃ m, q = m + 1 := ⟨q - 1, by omega⟩
      simp only [platformfwhelp_Equal_uint64.l0]; rw [if_neg (by omega)]
    | succ e ih =>
      intro i q hi hq
      obtain ⟨q, rfl⟩ : ∃ m, q = m + 1 := ⟨q - 1, by omega⟩
      simp only [platformfwhelp_Equal_uint64.l0]
      rw [if_pos (by omega), if_pos (by omega), if_pos (by omega), if_pos trivial, wrap64_id (by omega) (by omega)]
      exact ih (i + 1) q (by omega) (by omega)
  unfold platformfwhelp_Equal_uint64.f
  rw [if_pos rfl]; exact loop l.length 0 k (by omega) hk
/-! ### layer 11: the field that is made out of an arbitrary one -/
theorem mod_ex (a n : Int) (h0 : 0 < n) (h1 : n < 9223372036854775808) : ∃ r, platformfwhelp_Mod.f a n = some r ∧ 0 ≤ r ∧ r < n := by
  unfold platformfwhelp_Mod.f
  have hu : IntKind.u64.wrap n = n := wrap_u64_id (by omega) (by omega)
  have ha : 0 ≤ IntKind.u64.wrap a := by rw [wrap_u64]; omega
  rw [hu, if_neg (by omega), tmod_pos ha]
  have h2 := Int.emod_nonneg (IntKind.u64.wrap a) (show n ≠ 0 by omega)
  have h3 := Int.emod_lt_of_pos (IntKind.u64.wrap a) h0
  rw [wrap64_id (by omega) (by omega)]
  exact ⟨_, rfl, h2, h3⟩
theorem wrap_u64_rng (x : Int) : 0 ≤ IntKind.u64.wrap x ∧ IntKind.u64.wrap x < 18446744073709551616 := by rw [wrap_u64]; omega
theorem spec_ex {s b len bit n w u i d : Int} (hb : 0 ≤ b) (hb2 : b < 18446744073709551616) (hl : 0 ≤ len) (hl2 : len < 18446744073709551616) (k : Nat) (hk : 1 ≤ k) :
    ∃ s' b' len' bit' n' w' u' i' d' : Int, platformfwlaw11_spec.f k s b len bit n w u i d = some (s', b', len', bit', n', w', u', i', d') ∧ 0 ≤ b' ∧ b' < 18446744073709551616 ∧ 0 ≤ len' ∧ len' < 18446744073709551616 := by
  obtain ⟨k, rfl⟩ : ∃ m, k = m + 1 := ⟨k - 1, by omega⟩
  obtain ⟨r1, e1, _, _⟩ := mod_ex i 8 (by omega) (by omega)
  obtain ⟨r2, e2, h2, h2'⟩ := mod_ex w 4 (by omega) (by omega)
  obtain ⟨r3, e3, h3, h3'⟩ := mod_ex s 4 (by omega) (by omega)
  obtain ⟨r4, e4, h4, h4'⟩ := mod_ex bit 400 (by omega) (by omega)
  obtain ⟨r5, e5, h5, h5'⟩ := mod_ex n 100 (by omega) (by omega)
  obtain ⟨r6, e6, h6, h6'⟩ := mod_ex u 3 (by omega) (by omega)
  obtain ⟨r7, e7, h7, h7'⟩ := mod_ex n 9 (by omega) (by omega)
  obtain ⟨r8, e8, h8, h8'⟩ := mod_ex bit 3 (by omega) (by omega)
  have j0 : ∀ x4 y0 y1 y2 y3 y4 y5 y6 y7 y8 : Int, 0 ≤ y1 → y1 < 18446744073709551616 → 0 ≤ y2 → y2 < 18446744073709551616 → ∃ s' b' len' bit' n' w' u' i' d' : Int, platformfwlaw11_spec.j0 (k + 1) x4 s b len bit n w u i d y0 y1 y2 y3 y4 y5 y6 y7 y8 = some (s', b', len', bit', n', w', u', i', d') ∧ 0 ≤ b' ∧ b' < 18446744073709551616 ∧ 0 ≤ len' ∧ len' < 18446744073709551616 := by
    intro x4 y0 y1 y2 y3 y4 y5 y6 y7 y8 a1 a2 a3 a4
    simp only [platformfwlaw11_spec.j0]
    rw [e1]
    simp only [Option.bind_some]
    split <;> split <;> exact ⟨_, _, _, _, _, _, _, _, _, rfl, by omega, by omega, by omega, by omega⟩
  unfold platformfwlaw11_spec.f
  rw [e1]
  simp only [Option.bind_some]
  by_cases c1 : r1 = 7
  · rw [if_pos c1]; exact ⟨_, _, _, _, _, _, _, _, _, rfl, hb, hb2, hl, hl2⟩
  rw [if_neg c1, e2]
  simp only [Option.bind_some]
  rw [if_pos (wrap_u64_rng r2).1, e3]
  simp only [Option.bind_some]
  rw [if_pos h3, if_pos (by simpa using h3'), e4]
  simp only [Option.bind_some]
  rw [e5]
  simp only [Option.bind_some]
  rw [e6]
  simp only [Option.bind_some]
  rw [e7]
  simp only [Option.bind_some]
  by_cases c2 : r7 = 8
  · rw [if_pos c2, e8]
    simp only [Option.bind_some]
    exact j0 _ _ _ _ _ _ _ _ _ _ (wrap_u64_rng _).1 (wrap_u64_rng _).2 (wrap_u64_rng _).1 (wrap_u64_rng _).2
  · rw [if_neg c2]
    exact j0 _ _ _ _ _ _ _ _ _ _ (wrap_u64_rng _).1 (wrap_u64_rng _).2 (wrap_u64_rng _).1 (wrap_u64_rng _).2
theorem awake11 : platformfwlaw11_awake.f 20 = some true := by decide +kernel
theorem awake11_at (k : Nat) (hk : 20 ≤ k) : platformfwlaw11_awake.f k = some true := at_rounds platformfwlaw11_awake.mono hk awake11
theorem accesses_two {s b len bit n w u i d : Int} (f c : Int) : ∀ (q : Nat) (l : List S58) (x : Int), field_Accesses.l0 q l f c x s b len bit n w u i d = platformfwref09_Accesses.l0 q f c l x s b len bit n w u i d := by
  intro q
  induction q with
  | zero => intro l x; rfl
  | succ q ih => intro l x; simp only [field_Accesses.l0, platformfwref09_Accesses.l0, ih]
theorem accesses_ex {s b len bit n w u i d : Int} (f c : Int) (hf : 0 ≤ f) (hf2 : f ≤ 1048577) (hc : 0 ≤ c) (hc2 : c ≤ 257) : ∀ (e : Nat) (x : Int) (q : Nat) (l : List S58), f ≤ x → x + e = f + c → e < q → (l.length : Int) = x - f →
    ∃ r, field_Accesses.l0 q l f c x s b len bit n w u i d = some r ∧ (r.length : Int) = c := by
  intro e
  induction e with
  | zero =>
    intro x q l h0 hx hq hl
    obtain ⟨q, rfl⟩ : ∃ m, q = m + 1 := ⟨q - 1, by omega⟩
    simp only [field_Accesses.l0]
    rw [wrap64_id (by omega) (by omega), if_neg (by omega)]
    exact ⟨l, rfl, by omega⟩
  | succ e ih =>
    intro x q l h0 hx hq hl
    obtain ⟨q, rfl⟩ : ∃ m, q = m + 1 := ⟨q - 1, by omega⟩
    simp only [field_Accesses.l0]
    rw [wrap64_id (a := f + c) (by omega) (by omega), if_pos (by omega), if_pos (by omega), wrap64_id (a := x + 1) (by omega) (by omega)]
    exact ih (x + 1) q _ (by omega) (by omega) (by omega) (by simp; omega)
theorem equal_acc (l : List S58) (hl : l.length ≤ 1000000) (k : Nat) (hk : l.length < k) : api_Access.f k l l = some true := by
  have loop : ∀ (e : Nat) (i q : Nat), i + e = l.length → e < q → api_Access.l0 q l l i = some true := by
    intro e
    induction e with
    | zero =>
      intro i q hi hq
      obtain ⟨q, rfl⟩ : ∃ m, q = m + 1 := ⟨q - 1, by omega⟩
      simp only [api_Access.l0]; rw [if_neg (by omega)]
    | succ e ih =>
      intro i q hi hq
      obtain ⟨q, rfl⟩ : ∃ m, q = m + 1 := ⟨q - 1, by omega⟩
      simp only [api_Access.l0]
      rw [if_pos (by omega), if_pos (by omega), if_pos (by omega), if_neg (by simp), wrap64_id (by omega) (by omega)]
      exact ih (i + 1) q (by omega) (by omega)
  unfold api_Access.f
  rw [if_pos rfl]; exact loop l.length 0 k (by omega) hk
theorem equal_bool (l : List Bool) (hl : l.length ≤ 1000000) (k : Nat) (hk : l.length < k) : platformfwhelp_Equal_bool.f k l l = some true := by
  have loop : ∀ (e : Nat) (i q : Nat), i + e = l.length → e < q → platformfwhelp_Equal_bool.l0 q l l i = some true := by
    intro e
    induction e with
    | zero =>
      intro i q hi hq
      obtain ⟨q, rfl⟩ : ∃ m, q = m + 1 := ⟨q - 1, by omega⟩
      simp only [platformfwhelp_Equal_bool.l0]; rw [if_neg (by omega)]
    | succ e ih =>
      intro i q hi hq
      obtain ⟨q, rfl⟩ : ∃ m, q = m + 1 := ⟨q - 1, by omega⟩
      simp only [platformfwhelp_Equal_bool.l0]
      rw [if_pos (by omega), if_pos (by omega), if_pos (by omega), if_neg (by simp), wrap64_id (by omega) (by omega)]
      exact ih (i + 1) q (by omega) (by omega)
  unfold platformfwhelp_Equal_bool.f
  rw [if_pos rfl]; exact loop l.length 0 k (by omega) hk
def fullW (w : Int) : Int := shr .u64 18446744073709551615 (wrap64 (64 - (wrap64 (8 * w))))
theorem full_eq {s b len bit n w u i d : Int} (h : VF s b len bit n w u) : field_full.f s b len bit n w u i d = some (fullW w) ∧ platformfwref09_Ones.f w = some (fullW w) := by
  have hw : w = 1 ∨ w = 2 ∨ w = 4 ∨ w = 8 := by unfold VF at h; exact h.2.2.2.2.2.1
  unfold field_full.f platformfwref09_Ones.f fullW
  have e1 : wrap64 (8 * w) = 8 * w := wrap64_id (by omega) (by omega)
  have e2 : wrap64 (64 - 8 * w) = 64 - 8 * w := wrap64_id (by omega) (by omega)
  rw [e1, e2, wrap_u64_id (a := 64 - 8 * w) (by omega) (by omega), if_pos (by omega)]
  exact ⟨rfl, rfl⟩
theorem rbw_field {s b len bit n w u i d : Int} (h : VF s b len bit n w u) (m : List Int) (hm : m.length ≤ 1000) : ∀ (e : Nat) (x q : Nat) (l : List Bool), l = (m.take x).map (fun z => decide (u = 0) && z != fullW w) → x + e = m.length → e < q →
    field_ReadsBeforeWrite.l0 q l m m.length x s b len bit n w u i d = some (m.map (fun z => decide (u = 0) && z != fullW w)) := by
  intro e
  induction e with
  | zero =>
    intro x q l hl hx hq
    obtain ⟨q, rfl⟩ : ∃ m, q = m + 1 := ⟨q - 1, by omega⟩
    simp only [field_ReadsBeforeWrite.l0]
    rw [if_neg (by omega), hl, List.take_of_length_le (by omega)]
  | succ e ih =>
    intro x q l hl hx hq
    obtain ⟨q, rfl⟩ : ∃ m, q = m + 1 := ⟨q - 1, by omega⟩
    have hlen : l.length = x := by rw [hl, List.length_map, List.length_take]; omega
    have hrd : rd m (x : Int) = m[x]'(by omega) := by unfold rd; rw [Int.toNat_natCast]; exact getD_at _ _ (by omega)
    have hnext : ∀ bb : Bool, bb = (decide (u = 0) && (m[x]'(by omega)) != fullW w) → l ++ [bb] = (m.take (x + 1)).map (fun z => decide (u = 0) && z != fullW w) := by
      intro bb hbb
      rw [List.take_succ_eq_append_getElem (by omega), List.map_append, hl, hbb]; rfl
    simp only [field_ReadsBeforeWrite.l0]
    rw [if_pos (by omega), if_pos (by omega), if_pos (by omega), wrap64_id (a := (x : Int) + 1) (by omega) (by omega)]
    by_cases hu : u = 0
    · rw [if_pos hu, (full_eq h).1, Option.bind_some, if_pos (by omega), hrd]
      exact ih (x + 1) q _ (hnext _ (by simp [hu])) (by omega) (by omega)
    · rw [if_neg hu, if_pos (by omega)]
      exact ih (x + 1) q _ (hnext _ (by simp [hu])) (by omega) (by omega)
theorem rbw_ref {s b len bit n w u i d : Int} (h : VF s b len bit n w u) (m : List Int) (hm : m.length ≤ 1000) : ∀ (e : Nat) (x q : Nat) (l : List Bool), l = (m.take x).map (fun z => decide (u = 0) && z != fullW w) ++ List.replicate (m.length - x) false → x + e = m.length → e < q →
    platformfwref09_ReadsBeforeWrite.l0 q m l x s b len bit n w u i d = some (m.map (fun z => decide (u = 0) && z != fullW w)) := by
  intro e
  induction e with
  | zero =>
    intro x q l hl hx hq
    obtain ⟨q, rfl⟩ : ∃ m, q = m + 1 := ⟨q - 1, by omega⟩
    simp only [platformfwref09_ReadsBeforeWrite.l0]
    rw [if_neg (by omega), hl, List.take_of_length_le (by omega), show m.length - x = 0 by omega]; simp
  | succ e ih =>
    intro x q l hl hx hq
    obtain ⟨q, rfl⟩ : ∃ m, q = m + 1 := ⟨q - 1, by omega⟩
    have hlen : l.length = m.length := by rw [hl, List.length_append, List.length_map, List.length_take, List.length_replicate]; omega
    have hrd : rd m (x : Int) = m[x]'(by omega) := by unfold rd; rw [Int.toNat_natCast]; exact getD_at _ _ (by omega)
    have hnext : ∀ bb : Bool, bb = (decide (u = 0) && (m[x]'(by omega)) != fullW w) → l.set x bb = (m.take (x + 1)).map (fun z => decide (u = 0) && z != fullW w) ++ List.replicate (m.length - (x + 1)) false := by
      intro bb hbb
      have hx1 : ((m.take x).map (fun z => decide (u = 0) && z != fullW w)).length = x := by rw [List.length_map, List.length_take]; omega
      rw [hl, List.set_append_right _ _ (by omega), hx1, Nat.sub_self, show m.length - x = (m.length - (x + 1)) + 1 by omega, List.replicate_succ, List.set_cons_zero, List.take_succ_eq_append_getElem (by omega), List.map_append, hbb]
      simp
    simp only [platformfwref09_ReadsBeforeWrite.l0]
    rw [if_pos (by omega), if_pos (c := (0 : Int) ≤ x) (by omega), if_pos (c := (x : Int) < l.length) (by omega), wrap64_id (a := (x : Int) + 1) (by omega) (by omega), Int.toNat_natCast]
    by_cases hu : u = 0
    · rw [if_pos hu, (full_eq (i := 0) (d := 0) h).2, Option.bind_some, if_pos (by omega), hrd]
      exact ih (x + 1) q _ (hnext ((m[x]'(by omega)) != fullW w) (by simp [hu])) (by omega) (by omega)
    · rw [if_neg hu]
      exact ih (x + 1) q _ (hnext _ (by simp [hu])) (by omega) (by omega)
theorem plans_true {s b len bit n w u i d : Int} (hb : 0 ≤ b) (hb2 : b < 18446744073709551616) (hl : 0 ≤ len) (hl2 : len < 18446744073709551616) (k : Nat) (hk : 1000 ≤ k) :
    platformfwlaw11_plans.f k s b len bit n w u i d = some true := by
  unfold platformfwlaw11_plans.f
  rw [fieldUnits_eq hb hb2 hl hl2 k (by omega), Option.bind_some, refUnits_eq hb hb2 hl hl2 k (by omega), Option.bind_some, fieldValid_eq hb hb2 hl hl2 k (by omega), Option.bind_some, refValid_eq hb hb2 hl hl2 k (by omega), Option.bind_some]
  rw [if_pos (by simp), if_pos rfl, if_pos rfl, fieldMasks_eq hb hb2 hl hl2 k (by omega), Option.bind_some, refMasks_eq hb hb2 hl hl2 k (by omega), Option.bind_some]
  have hml : (masksOf s b len bit n w u).length ≤ 257 := by
    by_cases h : VF s b len bit n w u
    · have := masksOf_length h; have := numU_bd h; omega
    · unfold masksOf; rw [if_neg h]; simp
  rw [equal_u64 _ (by omega) k (by omega), Option.bind_some, if_pos rfl]
  have hacc : ∃ r, field_Accesses.f k s b len bit n w u i d = some r ∧ platformfwref09_Accesses.f k s b len bit n w u i d = some r ∧ r.length ≤ 257 := by
    unfold field_Accesses.f platformfwref09_Accesses.f
    rw [fieldUnits_eq hb hb2 hl hl2 k (by omega), Option.bind_some, refUnits_eq hb hb2 hl hl2 k (by omega), Option.bind_some]
    by_cases h : VF s b len bit n w u
    · have := numU_bd h
      rw [if_pos h]
      simp only
      obtain ⟨r, h1, h2⟩ := accesses_ex (s := s) (b := b) (len := len) (bit := bit) (n := n) (w := w) (u := u) (i := i) (d := d) (fstU bit w) (numU bit n w) (by omega) (by omega) (by omega) (by omega) (numU bit n w).toNat (fstU bit w) k [] (by omega) (by omega) (by omega) (by simp)
      exact ⟨r, h1, by rw [← accesses_two]; exact h1, by omega⟩
    · rw [if_neg h]
      simp only
      obtain ⟨r, h1, h2⟩ := accesses_ex (s := s) (b := b) (len := len) (bit := bit) (n := n) (w := w) (u := u) (i := i) (d := d) 0 0 (by omega) (by omega) (by omega) (by omega) 0 0 k [] (by omega) (by omega) (by omega) (by simp)
      exact ⟨r, h1, by rw [← accesses_two]; exact h1, by omega⟩
  obtain ⟨r, h1, h2, h3⟩ := hacc
  rw [h1, Option.bind_some, h2, Option.bind_some, equal_acc r (by omega) k (by omega), Option.bind_some, if_pos rfl]
  have hrbw : ∃ r, field_ReadsBeforeWrite.f k s b len bit n w u i d = some r ∧ platformfwref09_ReadsBeforeWrite.f k s b len bit n w u i d = some r ∧ r.length ≤ 257 := by
    unfold field_ReadsBeforeWrite.f platformfwref09_ReadsBeforeWrite.f
    rw [fieldMasks_eq hb hb2 hl hl2 k (by omega), Option.bind_some, refMasks_eq hb hb2 hl hl2 k (by omega), Option.bind_some]
    rw [if_pos (by omega), if_pos (by omega)]
    by_cases h : VF s b len bit n w u
    · refine ⟨_, rbw_field h _ (by omega) (masksOf s b len bit n w u).length 0 k [] (by simp) (by omega) (by omega), ?_, by rw [List.length_map]; exact hml⟩
      exact rbw_ref h _ (by omega) (masksOf s b len bit n w u).length 0 k _ (by simp) (by omega) (by omega)
    · obtain ⟨k, rfl⟩ : ∃ m, k = m + 1 := ⟨k - 1, by omega⟩
      have : masksOf s b len bit n w u = [] := by unfold masksOf; rw [if_neg h]
      rw [this]
      simp only [field_ReadsBeforeWrite.l0, platformfwref09_ReadsBeforeWrite.l0]
      rw [if_neg (by simp), if_neg (by simp)]
      exact ⟨[], rfl, rfl, by simp⟩
  obtain ⟨r, h1, h2, h3⟩ := hrbw
  rw [h1, Option.bind_some, h2, Option.bind_some, equal_bool r (by omega) k (by omega), Option.bind_some]
theorem FieldPlans : St.FieldPlans := by
  intro s b len bit n w u i d _ hb hl _ _ _ _ _ _
  have hb' := wf_u64 hb
  have hl' := wf_u64 hl
  obtain ⟨s', b', len', bit', n', w', u', i', d', he, h1, h2, h3, h4⟩ := spec_ex (s := s) (bit := bit) (n := n) (w := w) (u := u) (i := i) (d := d) hb'.1 hb'.2 hl'.1 hl'.2 1000 (by omega)
  refine ⟨1000, ?_⟩
  unfold platformfwlaw11_FieldPlans.f
  rw [awake11_at 1000 (by omega), Option.bind_some, if_pos rfl, plans_true hb'.1 hb'.2 hl'.1 hl'.2 1000 (by omega), Option.bind_some, if_pos rfl, he, Option.bind_some]
  simp only
  rw [plans_true h1 h2 h3 h4 1000 (by omega), Option.bind_some]
end Go.Proofs.Ytmnmidclaaiffaa.Pure
