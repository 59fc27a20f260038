/- The masks of a field contain exactly its bits, and its access units lie in the region: the plain law. -/
import Derived.Test.YtmnmidclaaiffaaStFieldUnitsCover
import Derived.Test.YtmnmidclaaiffaaBytes
import Derived.Test.YtmnmidclaaiffaaExt
namespace Go.Proofs.Ytmnmidclaaiffaa.Pure
open Go.RowKit Go.Proofs.Ytmnmidclaaiffaa.PFieldUnitsCover Go.Proofs.YtmnmidclaaiffaaW.PrintWords Go.Proofs.YtmnmidclaaiffaaW.PrintLast Go.Proofs.YtmnmidclaaiffaaW.PrintMore Go.Proofs.Ytmnmidclaaiffaa.Plain
open Go.Proofs.Ytmnmidclaaiffaa.Ext
set_option linter.unusedVariables false
set_option linter.unusedSimpArgs false
theorem awake11 : platformfwlaw11_awake.f 20 = some true := by decide +kernel
theorem awake11_at (k : Nat) (hk : 20 ≤ k) : platformfwlaw11_awake.f k = some true := at_rounds platformfwlaw11_awake.mono hk awake11
/-! ### layer 11: which fields are valid, and the units of a field -/
/-- A valid field: space s, base b, length len, first bit, bits n, width w, update u. -/
def VF (s b len bit n w u : Int) : Prop :=
  (s = 0 ∨ s = 1 ∨ s = 3) ∧ 1 ≤ len ∧ len ≤ 1048576 ∧ b ≤ 18446744073709551615 - (len - 1) ∧ (s = 3 → b ≤ 255 ∧ b + len ≤ 256 ∧ w = 1) ∧ (w = 1 ∨ w = 2 ∨ w = 4 ∨ w = 8) ∧ b % w = 0 ∧ 0 ≤ u ∧ u ≤ 2 ∧ 0 ≤ bit ∧ bit < 8388608 ∧ 1 ≤ n ∧ n ≤ 256 ∧ ((bit + n - 1) / (8 * w) + 1) * w ≤ len
instance (s b len bit n w u : Int) : Decidable (VF s b len bit n w u) := by unfold VF; infer_instance
theorem tdiv_pos {a b : Int} (h : 0 ≤ a) : Int.tdiv a b = a / b := Int.tdiv_eq_ediv_of_nonneg h
theorem tmod_pos {a b : Int} (h : 0 ≤ a) : Int.tmod a b = a % b := Int.tmod_eq_emod_of_nonneg h
/-- The last test of both: the end of the last unit. -/
theorem end_eq {bit n w len : Int} (hw : w = 1 ∨ w = 2 ∨ w = 4 ∨ w = 8) (hb : 0 ≤ bit) (hb2 : bit ≤ 8388608) (hn : 1 ≤ n) (hn2 : n ≤ 256) :
    wrap64 (8 * w) = 8 * w ∧ (IntKind.u64.wrap (wrap64 ((wrap64 ((wrap64 (Int.tdiv (wrap64 ((wrap64 (bit + n)) - 1)) (wrap64 (8 * w)))) + 1)) * w))) = ((bit + n - 1) / (8 * w) + 1) * w := by
  have h8 : wrap64 (8 * w) = 8 * w := wrap64_id (by omega) (by omega)
  refine ⟨h8, ?_⟩
  rw [h8, wrap64_id (a := bit + n) (by omega) (by omega), wrap64_id (a := bit + n - 1) (by omega) (by omega), tdiv_pos (by omega)]
  rcases hw with rfl | rfl | rfl | rfl
  all_goals
    rw [wrap64_id (a := _ / _) (by omega) (by omega), wrap64_id (a := _ / _ + 1) (by omega) (by omega), wrap64_id (by omega) (by omega), wrap_u64_id (by omega) (by omega)]
theorem end_big {bit n w len : Int} (hw : w = 1 ∨ w = 2 ∨ w = 4 ∨ w = 8) (hb : bit = 8388608) (hn : 1 ≤ n) (hl : len ≤ 1048576) : ¬ ((bit + n - 1) / (8 * w) + 1) * w ≤ len := by
  rcases hw with rfl | rfl | rfl | rfl <;> omega
theorem validRegion_eq {s b len w : Int} (hb : 0 ≤ b) (hb2 : b < 18446744073709551616) (hl : 0 ≤ len) (hl2 : len < 18446744073709551616) (hw : w = 1 ∨ w = 2 ∨ w = 4 ∨ w = 8) (k : Nat) (hk : 3 ≤ k) :
    field_validRegion.f k s b len w = some (decide ((s = 0 ∨ s = 1 ∨ s = 3) ∧ 1 ≤ len ∧ len ≤ 1048576 ∧ b ≤ 18446744073709551615 - (len - 1) ∧ (s = 3 → b ≤ 255 ∧ b + len ≤ 256 ∧ w = 1) ∧ b % w = 0)) := by
  obtain ⟨k, rfl⟩ : ∃ m, k = m + 3 := ⟨k - 3, by omega⟩
  have hu : IntKind.u64.wrap w = w := wrap_u64_id (by omega) (by omega)
  unfold field_validRegion.f
  have bad : field_validRegion.j0 (k + 3) w true s b len = some false := by simp only [field_validRegion.j0]; rw [if_pos trivial]
  by_cases h1 : len < 1
  · rw [if_pos h1, bad]; congr 1; symm; rw [decide_eq_false_iff_not]; omega
  rw [if_neg h1]
  by_cases h2 : len > 1048576
  · rw [if_pos h2, bad]; congr 1; symm; rw [decide_eq_false_iff_not]; omega
  rw [if_neg h2, wrap_u64_id (a := len - 1) (by omega) (by omega), wrap_u64_id (a := 18446744073709551615 - b) (by omega) (by omega)]
  by_cases h3 : len - 1 > 18446744073709551615 - b
  · rw [if_pos h3, bad]; congr 1; symm; rw [decide_eq_false_iff_not]; omega
  rw [if_neg h3, hu, if_neg (by omega), tmod_pos hb]
  simp only [field_validRegion.j0]
  by_cases h4 : b % w = 0
  case neg =>
    rw [if_pos (by simpa using h4)]; congr 1; symm; rw [decide_eq_false_iff_not]; omega
  rw [if_neg (by simp [h4])]
  have fin : ∀ c : Bool, (c = true ↔ (s = 0 ∨ s = 1)) → field_validRegion.j1 (k + 2) w s c s b len = some (decide ((s = 0 ∨ s = 1 ∨ s = 3) ∧ 1 ≤ len ∧ len ≤ 1048576 ∧ b ≤ 18446744073709551615 - (len - 1) ∧ (s = 3 → b ≤ 255 ∧ b + len ≤ 256 ∧ w = 1) ∧ b % w = 0)) := by
    intro c hc
    simp only [field_validRegion.j1]
    by_cases h5 : s = 0 ∨ s = 1
    · rw [if_pos (hc.2 h5)]; congr 1; symm; rw [decide_eq_true_iff]; omega
    rw [if_neg (fun h => h5 (hc.1 h))]
    by_cases h6 : s = 3
    · rw [if_pos h6]
      by_cases h7 : w = 1
      · rw [if_pos h7]
        by_cases h8 : b < 256
        · rw [if_pos h8, wrap_u64_id (by omega) (by omega)]; congr 1; rw [decide_eq_decide]; omega
        · rw [if_neg h8]; congr 1; symm; rw [decide_eq_false_iff_not]; omega
      · rw [if_neg h7]; congr 1; symm; rw [decide_eq_false_iff_not]; omega
    · rw [if_neg h6]; congr 1; symm; rw [decide_eq_false_iff_not]; omega
  by_cases h5 : s = 0
  · rw [if_pos h5]; exact fin _ (by simp [h5])
  · rw [if_neg h5]; exact fin _ (by simp; omega)
theorem fieldValid_eq {s b len bit n w u i d : Int} (hb : 0 ≤ b) (hb2 : b < 18446744073709551616) (hl : 0 ≤ len) (hl2 : len < 18446744073709551616) (k : Nat) (hk : 6 ≤ k) :
    field_Valid.f k s b len bit n w u i d = some (decide (VF s b len bit n w u)) := by
  obtain ⟨k, rfl⟩ : ∃ m, k = m + 6 := ⟨k - 6, by omega⟩
  have key : (w = 1 ∨ w = 2 ∨ w = 4 ∨ w = 8) → field_Valid.j0 (k + 6) s b len bit n w u i d = some (decide (VF s b len bit n w u)) := by
    intro hw
    have bad : ¬ VF s b len bit n w u → field_Valid.j1 (k + 5) true s b len bit n w u i d = some (decide (VF s b len bit n w u)) := by
      intro h; simp only [field_Valid.j1]; rw [if_pos trivial]; congr 1; symm; rw [decide_eq_false_iff_not]; exact h
    simp only [field_Valid.j0]
    rw [validRegion_eq hb hb2 hl hl2 hw (k + 5) (by omega), Option.bind_some]
    by_cases h1 : ((s = 0 ∨ s = 1 ∨ s = 3) ∧ 1 ≤ len ∧ len ≤ 1048576 ∧ b ≤ 18446744073709551615 - (len - 1) ∧ (s = 3 → b ≤ 255 ∧ b + len ≤ 256 ∧ w = 1) ∧ b % w = 0)
    case neg => rw [if_neg (by rw [decide_eq_true_iff]; exact h1)]; exact bad (fun h => h1 (by unfold VF at h; exact ⟨h.1, h.2.1, h.2.2.1, h.2.2.2.1, h.2.2.2.2.1, h.2.2.2.2.2.2.1⟩))
    rw [if_pos (by rw [decide_eq_true_iff]; exact h1)]
    by_cases h2 : u < 0
    · rw [if_pos h2]; exact bad (fun h => by unfold VF at h; omega)
    rw [if_neg h2]
    by_cases h3 : u > 2
    · rw [if_pos h3]; exact bad (fun h => by unfold VF at h; omega)
    rw [if_neg h3]
    by_cases h4 : n < 1
    · rw [if_pos h4]; exact bad (fun h => by unfold VF at h; omega)
    rw [if_neg h4]
    by_cases h5 : n > 256
    · rw [decide_eq_true h5]; exact bad (fun h => by unfold VF at h; omega)
    rw [decide_eq_false h5]
    simp only [field_Valid.j1]
    rw [if_neg (by decide)]
    by_cases h6 : bit < 0
    · rw [if_pos h6]; congr 1; symm; rw [decide_eq_false_iff_not]; intro h; unfold VF at h; omega
    rw [if_neg h6]
    by_cases h7 : bit ≥ 8388608
    · rw [if_pos h7]; congr 1; symm; rw [decide_eq_false_iff_not]; intro h; unfold VF at h; omega
    rw [if_neg h7]
    obtain ⟨e1, e2⟩ := end_eq (len := len) hw (bit := bit) (n := n) (by omega) (by omega) (by omega) (by omega)
    rw [e2, e1, if_neg (by omega)]
    congr 1; rw [decide_eq_decide]; unfold VF
    constructor
    · intro h; exact ⟨h1.1, h1.2.1, h1.2.2.1, h1.2.2.2.1, h1.2.2.2.2.1, hw, h1.2.2.2.2.2, by omega, by omega, by omega, by omega, by omega, by omega, h⟩
    · intro h; exact h.2.2.2.2.2.2.2.2.2.2.2.2.2
  unfold field_Valid.f
  by_cases w1 : w = 1
  · rw [if_pos w1]; exact key (by omega)
  rw [if_neg w1]
  by_cases w2 : w = 2
  · rw [if_pos w2]; exact key (by omega)
  rw [if_neg w2]
  by_cases w4 : w = 4
  · rw [if_pos w4]; exact key (by omega)
  rw [if_neg w4]
  by_cases w8 : w = 8
  · rw [if_pos w8]; exact key (by omega)
  rw [if_neg w8]
  congr 1; symm; rw [decide_eq_false_iff_not]; intro h; unfold VF at h; omega
theorem refValid_eq {s b len bit n w u i d : Int} (hb : 0 ≤ b) (hb2 : b < 18446744073709551616) (hl : 0 ≤ len) (hl2 : len < 18446744073709551616) (k : Nat) (hk : 6 ≤ k) :
    platformfwref09_ValidField.f k s b len bit n w u i d = some (decide (VF s b len bit n w u)) := by
  obtain ⟨k, rfl⟩ : ∃ m, k = m + 6 := ⟨k - 6, by omega⟩
  have no : ¬ VF s b len bit n w u → some false = some (decide (VF s b len bit n w u)) := fun h => by congr 1; symm; rw [decide_eq_false_iff_not]; exact h
  have bad0 : ¬ VF s b len bit n w u → platformfwref09_ValidField.j0 (k + 6) true s b len bit n w u i d s b len = some (decide (VF s b len bit n w u)) := by
    intro h; simp only [platformfwref09_ValidField.j0]; rw [if_pos trivial]; exact no h
  have bad1 : ¬ VF s b len bit n w u → platformfwref09_ValidField.j1 (k + 5) true s b len bit n w u i d s b len = some (decide (VF s b len bit n w u)) := by
    intro h; simp only [platformfwref09_ValidField.j1]; rw [if_pos trivial]; exact no h
  have bad2 : ¬ VF s b len bit n w u → platformfwref09_ValidField.j2 (k + 4) true s b len bit n w u i d s b len = some (decide (VF s b len bit n w u)) := by
    intro h; simp only [platformfwref09_ValidField.j2]; rw [if_pos trivial]; exact no h
  have key2 : (s = 0 ∨ s = 1 ∨ s = 3) → 1 ≤ len → len ≤ 1048576 → b ≤ 18446744073709551615 - (len - 1) → (s = 3 → b ≤ 255 ∧ b + len ≤ 256 ∧ w = 1) → (w = 1 ∨ w = 2 ∨ w = 4 ∨ w = 8) → b % w = 0 → 0 ≤ u →
      platformfwref09_ValidField.j2 (k + 4) (decide (u > 2)) s b len bit n w u i d s b len = some (decide (VF s b len bit n w u)) := by
    intro a1 a2 a3 a4 a5 hw a7 a8
    by_cases h1 : u > 2
    · rw [decide_eq_true h1]; exact bad2 (fun h => by unfold VF at h; omega)
    rw [decide_eq_false h1]
    simp only [platformfwref09_ValidField.j2]
    rw [if_neg (by decide)]
    by_cases h2 : bit < 0
    · rw [if_pos h2]; exact no (fun h => by unfold VF at h; omega)
    rw [if_neg h2]
    by_cases h3 : bit > 8388608
    · rw [if_pos h3]; exact no (fun h => by unfold VF at h; omega)
    rw [if_neg h3]
    by_cases h4 : n < 1
    · rw [if_pos h4]; exact no (fun h => by unfold VF at h; omega)
    rw [if_neg h4]
    by_cases h5 : n > 256
    · rw [if_pos h5]; exact no (fun h => by unfold VF at h; omega)
    rw [if_neg h5]
    obtain ⟨e1, e2⟩ := end_eq (len := len) hw (bit := bit) (n := n) (by omega) (by omega) (by omega) (by omega)
    rw [e2, e1, if_neg (by omega)]
    congr 1; rw [decide_eq_decide]; unfold VF
    constructor
    · intro h
      have : bit ≠ 8388608 := fun hb => end_big hw hb (n := n) (by omega) a3 h
      exact ⟨a1, a2, a3, a4, a5, hw, a7, a8, by omega, by omega, by omega, by omega, by omega, h⟩
    · intro h; exact h.2.2.2.2.2.2.2.2.2.2.2.2.2
  have key1 : (s = 0 ∨ s = 1 ∨ s = 3) → 1 ≤ len → len ≤ 1048576 → b ≤ 18446744073709551615 - (len - 1) → (s = 3 → b ≤ 255 ∧ b + len ≤ 256 ∧ w = 1) →
      platformfwref09_ValidField.j1 (k + 5) false s b len bit n w u i d s b len = some (decide (VF s b len bit n w u)) := by
    intro a1 a2 a3 a4 a5
    have each : (w = 1 ∨ w = 2 ∨ w = 4 ∨ w = 8) → (if (IntKind.u64.wrap (w)) = 0 then (none) else (if (Int.tmod b (IntKind.u64.wrap (w))) = 0 then (if u < 0 then (platformfwref09_ValidField.j2 (k + 4) true s b len bit n w u i d s b len) else (platformfwref09_ValidField.j2 (k + 4) (decide (u > 2)) s b len bit n w u i d s b len)) else (platformfwref09_ValidField.j2 (k + 4) true s b len bit n w u i d s b len))) = some (decide (VF s b len bit n w u)) := by
      intro hw
      rw [wrap_u64_id (a := w) (by omega) (by omega), if_neg (by omega), tmod_pos hb]
      by_cases h1 : b % w = 0
      · rw [if_pos h1]
        by_cases h2 : u < 0
        · rw [if_pos h2]; exact bad2 (fun h => by unfold VF at h; omega)
        · rw [if_neg h2]; exact key2 a1 a2 a3 a4 a5 hw h1 (by omega)
      · rw [if_neg h1]; exact bad2 (fun h => by unfold VF at h; exact h1 h.2.2.2.2.2.2.1)
    simp only [platformfwref09_ValidField.j1]
    rw [if_neg (by decide)]
    by_cases w1 : w = 1
    · rw [if_pos w1]; exact each (by omega)
    rw [if_neg w1]
    by_cases w2 : w = 2
    · rw [if_pos w2]; exact each (by omega)
    rw [if_neg w2]
    by_cases w4 : w = 4
    · rw [if_pos w4]; exact each (by omega)
    rw [if_neg w4]
    by_cases w8 : w = 8
    · rw [if_pos w8]; exact each (by omega)
    rw [if_neg w8]; exact bad2 (fun h => by unfold VF at h; omega)
  have key0 : (s = 0 ∨ s = 1 ∨ s = 3) → (if len < 1 then (platformfwref09_ValidField.j0 (k + 6) true s b len bit n w u i d s b len) else (if len > 1048576 then (platformfwref09_ValidField.j0 (k + 6) true s b len bit n w u i d s b len) else (platformfwref09_ValidField.j0 (k + 6) (decide (b > (IntKind.u64.wrap (18446744073709551615 - (IntKind.u64.wrap (len - 1)))))) s b len bit n w u i d s b len))) = some (decide (VF s b len bit n w u)) := by
    intro a1
    by_cases h1 : len < 1
    · rw [if_pos h1]; exact bad0 (fun h => by unfold VF at h; omega)
    rw [if_neg h1]
    by_cases h2 : len > 1048576
    · rw [if_pos h2]; exact bad0 (fun h => by unfold VF at h; omega)
    rw [if_neg h2, wrap_u64_id (a := len - 1) (by omega) (by omega), wrap_u64_id (a := 18446744073709551615 - (len - 1)) (by omega) (by omega)]
    by_cases h3 : b > 18446744073709551615 - (len - 1)
    · rw [decide_eq_true h3]; exact bad0 (fun h => by unfold VF at h; omega)
    rw [decide_eq_false h3]
    simp only [platformfwref09_ValidField.j0]
    rw [if_neg (by decide)]
    by_cases h4 : s = 3
    · rw [if_pos h4]
      by_cases h5 : b > 255
      · rw [if_pos h5]; exact bad1 (fun h => by unfold VF at h; omega)
      rw [if_neg h5, wrap_u64_id (a := b + len) (by omega) (by omega)]
      by_cases h6 : b + len > 256
      · rw [if_pos h6]; exact bad1 (fun h => by unfold VF at h; omega)
      rw [if_neg h6]
      by_cases h7 : w = 1
      · rw [show (w != 1) = false by simp [h7]]; exact key1 a1 (by omega) (by omega) (by omega) (by omega)
      · rw [show (w != 1) = true by simp [h7]]; exact bad1 (fun h => by unfold VF at h; omega)
    · rw [if_neg h4]; exact key1 a1 (by omega) (by omega) (by omega) (by omega)
  unfold platformfwref09_ValidField.f
  by_cases s0 : s = 0
  · rw [if_pos s0]; exact key0 (by omega)
  rw [if_neg s0]
  by_cases s1 : s = 1
  · rw [if_pos s1]; exact key0 (by omega)
  rw [if_neg s1]
  by_cases s3 : s = 3
  · rw [if_pos s3]; exact key0 (by omega)
  rw [if_neg s3]; exact bad0 (fun h => by unfold VF at h; omega)
/-- The first unit and the number of units. -/
def fstU (bit w : Int) : Int := bit / (8 * w)
def numU (bit n w : Int) : Int := (bit + n - 1) / (8 * w) - bit / (8 * w) + 1
theorem numU_bd {s b len bit n w u : Int} (h : VF s b len bit n w u) : 1 ≤ numU bit n w ∧ numU bit n w ≤ 257 ∧ 0 ≤ fstU bit w ∧ fstU bit w < 1048577 := by
  unfold VF at h; unfold numU fstU
  rcases h.2.2.2.2.2.1 with rfl | rfl | rfl | rfl <;> omega
theorem units_raw {s b len bit n w u : Int} (h : VF s b len bit n w u) : wrap64 (8 * w) = 8 * w ∧ 8 * w ≠ 0 ∧ wrap64 (Int.tdiv bit (wrap64 (8 * w))) = fstU bit w ∧ wrap64 ((wrap64 ((wrap64 (Int.tdiv (wrap64 ((wrap64 (bit + n)) - 1)) (wrap64 (8 * w)))) - (wrap64 (Int.tdiv bit (wrap64 (8 * w)))))) + 1) = numU bit n w := by
  unfold VF at h; unfold numU fstU
  have h8 : wrap64 (8 * w) = 8 * w := wrap64_id (by omega) (by omega)
  refine ⟨h8, by omega, ?_, ?_⟩
  · rw [h8, tdiv_pos (by omega)]
    rcases h.2.2.2.2.2.1 with rfl | rfl | rfl | rfl <;> exact wrap64_id (by omega) (by omega)
  · rw [h8, wrap64_id (a := bit + n) (by omega) (by omega), wrap64_id (a := bit + n - 1) (by omega) (by omega), tdiv_pos (by omega), tdiv_pos (by omega)]
    rcases h.2.2.2.2.2.1 with rfl | rfl | rfl | rfl
    all_goals
      rw [wrap64_id (a := (bit + n - 1) / _) (by omega) (by omega), wrap64_id (a := bit / _) (by omega) (by omega), wrap64_id (a := _ / _ - _ / _) (by omega) (by omega), wrap64_id (by omega) (by omega)]
theorem fieldUnits_eq {s b len bit n w u i d : Int} (hb : 0 ≤ b) (hb2 : b < 18446744073709551616) (hl : 0 ≤ len) (hl2 : len < 18446744073709551616) (k : Nat) (hk : 6 ≤ k) :
    field_Units.f k s b len bit n w u i d = some (if VF s b len bit n w u then (fstU bit w, numU bit n w) else (0, 0)) := by
  unfold field_Units.f
  rw [fieldValid_eq hb hb2 hl hl2 k hk, Option.bind_some]
  by_cases h : VF s b len bit n w u
  · obtain ⟨e1, e2, e3, e4⟩ := units_raw h
    rw [decide_eq_true h, if_pos rfl, if_pos h, e4, e3, e1, if_neg e2]
  · rw [decide_eq_false h, if_neg (by decide), if_neg h]
/-! ### layer 11: the field that is made out of an arbitrary one -/
theorem mod_ex (a n : Int) (h0 : 0 < n) (h1 : n < 9223372036854775808) : ∃ r, platformfwhelp_Mod.f a n = some r ∧ 0 ≤ r ∧ r < n := by
  unfold platformfwhelp_Mod.f
  have hu : IntKind.u64.wrap n = n := wrap_u64_id (by omega) (by omega)
  have ha : 0 ≤ IntKind.u64.wrap a := by rw [wrap_u64]; omega
  rw [hu, if_neg (by omega), tmod_pos ha]
  have h2 := Int.emod_nonneg (IntKind.u64.wrap a) (show n ≠ 0 by omega)
  have h3 := Int.emod_lt_of_pos (IntKind.u64.wrap a) h0
  rw [wrap64_id (by omega) (by omega)]
  exact ⟨_, rfl, h2, h3⟩
theorem wrap_u64_rng (x : Int) : 0 ≤ IntKind.u64.wrap x ∧ IntKind.u64.wrap x < 18446744073709551616 := by rw [wrap_u64]; omega
theorem spec_ex {s b len bit n w u i d : Int} (hb : 0 ≤ b) (hb2 : b < 18446744073709551616) (hl : 0 ≤ len) (hl2 : len < 18446744073709551616) (k : Nat) (hk : 1 ≤ k) :
    ∃ s' b' len' bit' n' w' u' i' d' : Int, platformfwlaw11_spec.f k s b len bit n w u i d = some (s', b', len', bit', n', w', u', i', d') ∧ 0 ≤ b' ∧ b' < 18446744073709551616 ∧ 0 ≤ len' ∧ len' < 18446744073709551616 := by
  obtain ⟨k, rfl⟩ : ∃ m, k = m + 1 := ⟨k - 1, by omega⟩
  obtain ⟨r1, e1, _, _⟩ := mod_ex i 8 (by omega) (by omega)
  obtain ⟨r2, e2, h2, h2'⟩ := mod_ex w 4 (by omega) (by omega)
  obtain ⟨r3, e3, h3, h3'⟩ := mod_ex s 4 (by omega) (by omega)
  obtain ⟨r4, e4, h4, h4'⟩ := mod_ex bit 400 (by omega) (by omega)
  obtain ⟨r5, e5, h5, h5'⟩ := mod_ex n 100 (by omega) (by omega)
  obtain ⟨r6, e6, h6, h6'⟩ := mod_ex u 3 (by omega) (by omega)
  obtain ⟨r7, e7, h7, h7'⟩ := mod_ex n 9 (by omega) (by omega)
  obtain ⟨r8, e8, h8, h8'⟩ := mod_ex bit 3 (by omega) (by omega)
  have j0 : ∀ x4 y0 y1 y2 y3 y4 y5 y6 y7 y8 : Int, 0 ≤ y1 → y1 < 18446744073709551616 → 0 ≤ y2 → y2 < 18446744073709551616 → ∃ s' b' len' bit' n' w' u' i' d' : Int, platformfwlaw11_spec.j0 (k + 1) x4 s b len bit n w u i d y0 y1 y2 y3 y4 y5 y6 y7 y8 = some (s', b', len', bit', n', w', u', i', d') ∧ 0 ≤ b' ∧ b' < 18446744073709551616 ∧ 0 ≤ len' ∧ len' < 18446744073709551616 := by
    intro x4 y0 y1 y2 y3 y4 y5 y6 y7 y8 a1 a2 a3 a4
    simp only [platformfwlaw11_spec.j0]
    rw [e1]
    simp only [Option.bind_some]
    split <;> split <;> exact ⟨_, _, _, _, _, _, _, _, _, rfl, by omega, by omega, by omega, by omega⟩
  unfold platformfwlaw11_spec.f
  rw [e1]
  simp only [Option.bind_some]
  by_cases c1 : r1 = 7
  · rw [if_pos c1]; exact ⟨_, _, _, _, _, _, _, _, _, rfl, hb, hb2, hl, hl2⟩
  rw [if_neg c1, e2]
  simp only [Option.bind_some]
  rw [if_pos (wrap_u64_rng r2).1, e3]
  simp only [Option.bind_some]
  rw [if_pos h3, if_pos (by simpa using h3'), e4]
  simp only [Option.bind_some]
  rw [e5]
  simp only [Option.bind_some]
  rw [e6]
  simp only [Option.bind_some]
  rw [e7]
  simp only [Option.bind_some]
  by_cases c2 : r7 = 8
  · rw [if_pos c2, e8]
    simp only [Option.bind_some]
    exact j0 _ _ _ _ _ _ _ _ _ _ (wrap_u64_rng _).1 (wrap_u64_rng _).2 (wrap_u64_rng _).1 (wrap_u64_rng _).2
  · rw [if_neg c2]
    exact j0 _ _ _ _ _ _ _ _ _ _ (wrap_u64_rng _).1 (wrap_u64_rng _).2 (wrap_u64_rng _).1 (wrap_u64_rng _).2
/-! ### layer 11: where a field's bits lie; loops that put bits into units -/
def uOf (bit w k : Int) : Int := (bit + k) / (8 * w) - bit / (8 * w)
def pOf (bit w k : Int) : Int := (bit + k) % (8 * w)
theorem uOf_bd {s b len bit n w u : Int} (h : VF s b len bit n w u) {k : Int} (h0 : 0 ≤ k) (h1 : k < n) : 0 ≤ uOf bit w k ∧ uOf bit w k < numU bit n w ∧ 0 ≤ pOf bit w k ∧ pOf bit w k < 8 * w ∧ 8 * w ≤ 64 := by
  unfold VF at h; unfold uOf pOf numU
  rcases h.2.2.2.2.2.1 with rfl | rfl | rfl | rfl <;> omega
theorem pos_raw {s b len bit n w u : Int} (h : VF s b len bit n w u) {k : Int} (h0 : 0 ≤ k) (h1 : k < n) : wrap64 (8 * w) = 8 * w ∧ ¬ 8 * w = 0 ∧ wrap64 (bit + k) = bit + k ∧ wrap64 (Int.tdiv (bit + k) (8 * w)) = (bit + k) / (8 * w) ∧ Int.tmod (bit + k) (8 * w) = pOf bit w k ∧ wrap64 (Int.tdiv bit (8 * w)) = fstU bit w ∧ wrap64 ((bit + k) / (8 * w) - fstU bit w) = uOf bit w k := by
  have hb := uOf_bd h h0 h1
  have hn := numU_bd h
  unfold VF at h; unfold uOf pOf numU fstU at *
  refine ⟨wrap64_id (by omega) (by omega), by omega, wrap64_id (by omega) (by omega), ?_, tmod_pos (by omega), ?_, wrap64_id (by omega) (by omega)⟩
  · rw [tdiv_pos (by omega)]
    rcases h.2.2.2.2.2.1 with rfl | rfl | rfl | rfl <;> exact wrap64_id (by omega) (by omega)
  · rw [tdiv_pos (by omega)]
    rcases h.2.2.2.2.2.1 with rfl | rfl | rfl | rfl <;> exact wrap64_id (by omega) (by omega)
theorem pos_eq {s b len bit n w u i d : Int} (h : VF s b len bit n w u) {k : Int} (h0 : 0 ≤ k) (h1 : k < n) : field_position.f s b len bit n w u i d k = some (uOf bit w k, pOf bit w k) := by
  obtain ⟨e1, e2, e3, e4, e5, e6, e7⟩ := pos_raw h h0 h1
  unfold field_position.f
  rw [e1, if_neg e2, e3, e4, e5, e6, e7]
/-- Bit after bit goes into its unit: d bits from bit k on; v tells them. -/
def gloop (bit w : Int) (v : Int → Int) : Nat → Int → List Int → List Int
  | 0, _, l => l
  | d + 1, k, l => gloop bit w v d (k + 1) (l.set (uOf bit w k).toNat (Go.bits .or .u64 (rd l (uOf bit w k)) (shl .u64 (v k) (pOf bit w k))))
theorem gloop_length (bit w : Int) (v : Int → Int) : ∀ (d : Nat) (k : Int) (l : List Int), (gloop bit w v d k l).length = l.length
  | 0, _, _ => rfl
  | d + 1, k, l => by rw [gloop, gloop_length bit w v d, List.length_set]
theorem fieldMasks_loop {s b len bit n w u i d : Int} (h : VF s b len bit n w u) : ∀ (e : Nat) (k : Int) (q : Nat) (l : List Int), 0 ≤ k → k + e = n → e < q → (l.length : Int) = numU bit n w →
    field_Masks.l0 q l n k s b len bit n w u i d = some (gloop bit w (fun _ => 1) e k l) := by
  intro e
  induction e with
  | zero =>
    intro k q l h0 hk hq hl
    obtain ⟨q, rfl⟩ : ∃ m, q = m + 1 := ⟨q - 1, by omega⟩
    simp only [field_Masks.l0]; rw [if_neg (by omega)]; rfl
  | succ e ih =>
    intro k q l h0 hk hq hl
    obtain ⟨q, rfl⟩ : ∃ m, q = m + 1 := ⟨q - 1, by omega⟩
    have hb := uOf_bd h h0 (show k < n by omega)
    have hn : n ≤ 256 := by unfold VF at h; omega
    simp only [field_Masks.l0]
    rw [if_pos (by omega), pos_eq h h0 (by omega), Option.bind_some, if_pos hb.1, if_pos (by omega), if_pos hb.2.2.1, wrap64_id (a := k + 1) (by omega) (by omega)]
    exact ih (k + 1) q _ (by omega) (by omega) (by omega) (by rw [List.length_set]; exact hl)
/-- The masks of a field. -/
def masksOf (s b len bit n w u : Int) : List Int := if VF s b len bit n w u then gloop bit w (fun _ => 1) n.toNat 0 (List.replicate (numU bit n w).toNat 0) else []
theorem masksOf_length {s b len bit n w u : Int} (h : VF s b len bit n w u) : ((masksOf s b len bit n w u).length : Int) = numU bit n w := by
  have := numU_bd h
  unfold masksOf; rw [if_pos h, gloop_length, List.length_replicate]; omega
theorem fieldMasks_eq {s b len bit n w u i d : Int} (hb : 0 ≤ b) (hb2 : b < 18446744073709551616) (hl : 0 ≤ len) (hl2 : len < 18446744073709551616) (k : Nat) (hk : 300 ≤ k) :
    field_Masks.f k s b len bit n w u i d = some (masksOf s b len bit n w u) := by
  unfold field_Masks.f masksOf
  rw [fieldUnits_eq hb hb2 hl hl2 k (by omega), Option.bind_some]
  by_cases h : VF s b len bit n w u
  · have hn := numU_bd h
    have hn2 : 1 ≤ n ∧ n ≤ 256 := by unfold VF at h; omega
    rw [if_pos h, if_pos h]
    simp only
    rw [if_pos (by omega), if_pos (by omega), Option.bind_some, if_pos (by omega)]
    exact fieldMasks_loop h n.toNat 0 k _ (by omega) (by omega) (by omega) (by rw [List.length_replicate]; omega)
  · rw [if_neg h, if_neg h]; rfl
theorem equal_u64 (l : List Int) (hl : l.length ≤ 1000000) (k : Nat) (hk : l.length < k) : platformfwhelp_Equal_uint64.f k l l = some true := by
  have loop : ∀ (e : Nat) (i q : Nat), i + e = l.length → e < q → platformfwhelp_Equal_uint64.l0 q l l i = some true := by
    intro e
    induction e with
    | zero =>
      intro i q hi hq
      obtain ⟨q, rfl⟩ : ∃ m, q = m + 1 := ⟨q - 1, by omega⟩
      simp only [platformfwhelp_Equal_uint64.l0]; rw [if_neg (by omega)]
    | succ e ih =>
      intro i q hi hq
      obtain ⟨q, rfl⟩ : ∃ m, q = m + 1 := ⟨q - 1, by omega⟩
      simp only [platformfwhelp_Equal_uint64.l0]
      rw [if_pos (by omega), if_pos (by omega), if_pos (by omega), if_pos trivial, wrap64_id (by omega) (by omega)]
      exact ih (i + 1) q (by omega) (by omega)
  unfold platformfwhelp_Equal_uint64.f
  rw [if_pos rfl]; exact loop l.length 0 k (by omega) hk
/-! ### bits of whole numbers -/
/-- Bit j of x, told in 64 bits. -/
def B (x : Int) (j : Nat) : Bool := (BitVec.ofInt 64 x).getLsbD j
theorem V_back (v : BitVec 64) : BitVec.ofInt 64 (IntKind.u64.wrap (v.toNat : Int)) = v := by
  have := v.isLt
  rw [wrap_u64_id (by omega) (by omega), BitVec.ofInt_natCast, BitVec.ofNat_toNat, BitVec.setWidth_eq]
theorem B_or (x y : Int) (j : Nat) : B (Go.bits .or .u64 x y) j = (B x j || B y j) := by
  unfold B
  rw [show BitVec.ofInt 64 (Go.bits .or .u64 x y) = BitVec.ofInt 64 x ||| BitVec.ofInt 64 y from V_back _, BitVec.getLsbD_or]
theorem B_and (x y : Int) (j : Nat) : B (Go.bits .and .u64 x y) j = (B x j && B y j) := by
  unfold B
  rw [show BitVec.ofInt 64 (Go.bits .and .u64 x y) = BitVec.ofInt 64 x &&& BitVec.ofInt 64 y from V_back _, BitVec.getLsbD_and]
theorem B_xor (x y : Int) (j : Nat) : B (Go.bits .xor .u64 x y) j = (B x j != B y j) := by
  unfold B
  rw [show BitVec.ofInt 64 (Go.bits .xor .u64 x y) = BitVec.ofInt 64 x ^^^ BitVec.ofInt 64 y from V_back _, BitVec.getLsbD_xor]
theorem B_andNot (x y : Int) (j : Nat) (hj : j < 64) : B (Go.bits .andNot .u64 x y) j = (B x j && !B y j) := by
  unfold B
  rw [show BitVec.ofInt 64 (Go.bits .andNot .u64 x y) = BitVec.ofInt 64 x &&& ~~~ BitVec.ofInt 64 y from V_back _, BitVec.getLsbD_and, BitVec.getLsbD_not]
  simp [hj]
theorem B_none (op : BinOp) (x y : Int) (h : ∀ j, j < 64 → B (Go.bits op .u64 x y) j = false) : Go.bits op .u64 x y = 0 := by
  have e : ∃ v : BitVec 64, Go.bits op .u64 x y = IntKind.u64.wrap (v.toNat : Int) := ⟨_, rfl⟩
  obtain ⟨v, hv⟩ := e
  have : v = 0#64 := by
    apply BitVec.eq_of_getLsbD_eq
    intro j hj
    have := h j hj
    unfold B at this
    rw [hv, V_back] at this
    rw [this]; simp
  rw [hv, this]; decide
theorem bits_rng (op : BinOp) (x y : Int) : 0 ≤ Go.bits op .u64 x y ∧ Go.bits op .u64 x y < 18446744073709551616 := wrap_u64_rng _
theorem B_zero (j : Nat) : B 0 j = false := by unfold B; rw [show BitVec.ofInt 64 0 = 0#64 by decide]; simp
theorem B_nat (m j : Nat) (hj : j < 64) : B (m : Int) j = m.testBit j := by
  unfold B
  rw [BitVec.ofInt_natCast, BitVec.getLsbD_ofNat]; simp [hj]
theorem B_shl {v p : Int} (hv : v = 0 ∨ v = 1) (h0 : 0 ≤ p) (h1 : p < 64) (j : Nat) (hj : j < 64) : B (shl .u64 v p) j = (decide (v = 1) && decide ((j : Int) = p)) := by
  obtain ⟨q, rfl⟩ := Int.eq_ofNat_of_zero_le h0
  have hq : q < 64 := by omega
  rcases hv with rfl | rfl
  · rw [show shl .u64 0 (q : Int) = 0 by unfold shl; rw [Int.zero_mul]; decide, B_zero]; simp
  · have hlt : (2 : Nat) ^ q < 18446744073709551616 := Nat.lt_of_lt_of_eq (Nat.pow_lt_pow_right (by decide) hq) (by decide)
    have e : shl .u64 1 (q : Int) = ((2 ^ q : Nat) : Int) := by
      unfold shl
      rw [Int.toNat_natCast, show min q IntKind.u64.bits = q by simp only [IntKind.bits]; omega, Int.one_mul]
      have hc : (2 : Int) ^ q = ((2 ^ q : Nat) : Int) := by rw [Int.natCast_pow]; rfl
      rw [hc]
      generalize (2 : Nat) ^ q = m at hlt
      exact wrap_u64_id (by omega) (by omega)
    rw [e, B_nat _ _ hj, Nat.testBit_two_pow]
    simp
    constructor <;> intro h <;> omega
theorem and_one (x : Int) : Go.bits .and .u64 x 1 = 0 ∨ Go.bits .and .u64 x 1 = 1 := by
  unfold Go.bits
  simp only [IntKind.bits]
  have h : ∀ b : BitVec 64, b &&& BitVec.ofInt 64 1 = 0#64 ∨ b &&& BitVec.ofInt 64 1 = 1#64 := by
    intro b
    rw [show BitVec.ofInt 64 1 = 1#64 by decide]
    rcases Nat.mod_two_eq_zero_or_one b.toNat with h | h
    · left; apply BitVec.eq_of_toNat_eq; rw [BitVec.toNat_and]; show b.toNat &&& 1 = 0; rw [Nat.and_one_is_mod, h]
    · right; apply BitVec.eq_of_toNat_eq; rw [BitVec.toNat_and]; show b.toNat &&& 1 = 1; rw [Nat.and_one_is_mod, h]
  rcases h (BitVec.ofInt 64 x) with h | h
  · left; exact (congrArg (fun b : BitVec 64 => IntKind.u64.wrap (b.toNat : Int)) h).trans (by decide)
  · right; exact (congrArg (fun b : BitVec 64 => IntKind.u64.wrap (b.toNat : Int)) h).trans (by decide)
theorem bit_of {x p : Int} (hx : 0 ≤ x) (hx2 : x < 18446744073709551616) (h0 : 0 ≤ p) (h1 : p < 64) : Go.bits .and .u64 (shr .u64 x p) 1 = if B x p.toNat then 1 else 0 := by
  obtain ⟨q, rfl⟩ := Int.eq_ofNat_of_zero_le h0
  obtain ⟨m, rfl⟩ := Int.eq_ofNat_of_zero_le hx
  rw [Int.toNat_natCast, B_nat _ _ (by omega)]
  have e : shr .u64 (m : Int) (q : Int) = ((m >>> q : Nat) : Int) := by
    unfold shr
    rw [Int.toNat_natCast, show min q IntKind.u64.bits = q by simp only [IntKind.bits]; omega, Nat.shiftRight_eq_div_pow, Int.natCast_ediv, Int.natCast_pow]
    rfl
  rw [e]
  have hb : (Go.bits .and .u64 ((m >>> q : Nat) : Int) 1 = 1) ↔ m.testBit q = true := by
    have h1 : B (Go.bits .and .u64 ((m >>> q : Nat) : Int) 1) 0 = m.testBit q := by
      rw [B_and, B_nat _ _ (by omega), show B 1 0 = true by decide, Nat.testBit_shiftRight]; simp
    rcases and_one ((m >>> q : Nat) : Int) with h | h
    · rw [h] at h1 ⊢; rw [B_zero] at h1; rw [← h1]; simp
    · rw [h] at h1 ⊢; rw [show B 1 0 = true by decide] at h1; rw [← h1]; simp
  by_cases h : m.testBit q = true
  · rw [if_pos h]; exact hb.2 h
  · rw [if_neg h]; rcases and_one ((m >>> q : Nat) : Int) with h' | h'
    · exact h'
    · exact absurd (hb.1 h') h
/-! ### what the loop over the units leaves -/
def hit (bit w : Int) (v : Int → Int) : Nat → Int → Int → Nat → Bool
  | 0, _, _, _ => false
  | d + 1, k, i, j => (decide (i = uOf bit w k) && (decide (v k = 1) && decide ((j : Int) = pOf bit w k))) || hit bit w v d (k + 1) i j
theorem hit_mono (bit w : Int) (v : Int → Int) : ∀ (d : Nat) (k i : Int) (j : Nat), hit bit w v d k i j = true → hit bit w (fun _ => 1) d k i j = true := by
  intro d
  induction d with
  | zero => intro k i j h; exact absurd h (by simp [hit])
  | succ d ih =>
    intro k i j h
    simp only [hit, Bool.or_eq_true, Bool.and_eq_true, decide_eq_true_eq] at h ⊢
    rcases h with h | h
    · exact Or.inl ⟨h.1, trivial, h.2.2⟩
    · exact Or.inr (ih _ _ _ h)
theorem hit_below {bit w : Int} (hw : 0 < w) (v : Int → Int) : ∀ (d : Nat) (k i : Int) (j : Nat), hit bit w v d k i j = true → (j : Int) < 8 * w := by
  intro d
  induction d with
  | zero => intro k i j h; exact absurd h (by simp [hit])
  | succ d ih =>
    intro k i j h
    simp only [hit, Bool.or_eq_true, Bool.and_eq_true, decide_eq_true_eq] at h
    rcases h with h | h
    · rw [h.2.2]; exact Int.emod_lt_of_pos _ (by omega)
    · exact ih _ _ _ h
theorem pos_inj {bit w : Int} (hw : 0 < w) {s t : Int} (hu : uOf bit w s = uOf bit w t) (hp : pOf bit w s = pOf bit w t) : s = t := by
  unfold uOf at hu; unfold pOf at hp
  have h1 := Int.mul_ediv_add_emod (bit + s) (8 * w)
  have h2 := Int.mul_ediv_add_emod (bit + t) (8 * w)
  have h3 : (bit + s) / (8 * w) = (bit + t) / (8 * w) := by omega
  rw [h3, hp] at h1; omega
theorem hit_not {bit w : Int} (hw : 0 < w) (v : Int → Int) : ∀ (d : Nat) (k t : Int), t < k → 0 ≤ t → 0 ≤ bit → hit bit w v d k (uOf bit w t) (pOf bit w t).toNat = false := by
  intro d
  induction d with
  | zero => intro k t _ _ _; rfl
  | succ d ih =>
    intro k t hk h0 hb
    have hp : 0 ≤ pOf bit w t := Int.emod_nonneg _ (by omega)
    simp only [hit]
    rw [ih (k + 1) t (by omega) h0 hb, Bool.or_false]
    by_cases hu : uOf bit w t = uOf bit w k
    · by_cases hpp : pOf bit w t = pOf bit w k
      · exact absurd (pos_inj hw hu hpp) (by omega)
      · rw [decide_eq_false (show ¬ (((pOf bit w t).toNat : Int) = pOf bit w k) by omega)]; simp
    · rw [decide_eq_false hu]; simp
theorem hit_at {bit w : Int} (hw : 0 < w) (v : Int → Int) : ∀ (d : Nat) (k t : Int), k ≤ t → t < k + d → 0 ≤ k → 0 ≤ bit → hit bit w v d k (uOf bit w t) (pOf bit w t).toNat = decide (v t = 1) := by
  intro d
  induction d with
  | zero => intro k t h1 h2 _ _; omega
  | succ d ih =>
    intro k t hk h1 h0 hb
    have hp : 0 ≤ pOf bit w t := Int.emod_nonneg _ (by omega)
    simp only [hit]
    by_cases ht : t = k
    · subst ht
      rw [hit_not hw v d (t + 1) t (by omega) h0 hb, Bool.or_false, decide_eq_true (rfl : uOf bit w t = uOf bit w t), decide_eq_true (show ((pOf bit w t).toNat : Int) = pOf bit w t by omega)]; simp
    · rw [ih (k + 1) t (by omega) (by omega) (by omega) hb]
      by_cases hu : uOf bit w t = uOf bit w k
      · by_cases hpp : pOf bit w t = pOf bit w k
        · exact absurd (pos_inj hw hu hpp) ht
        · rw [decide_eq_false (show ¬ (((pOf bit w t).toNat : Int) = pOf bit w k) by omega)]; simp
      · rw [decide_eq_false hu]; simp
theorem rd_set (l : List Int) (U : Nat) (z : Int) (i : Int) (h0 : 0 ≤ i) (hU : U < l.length) : rd (l.set U z) i = if i = U then z else rd l i := by
  unfold rd
  rw [List.getD_eq_getElem?_getD, List.getD_eq_getElem?_getD, List.getElem?_set]
  by_cases h : i = U
  · rw [if_pos h, if_pos (by omega), if_pos hU]; rfl
  · rw [if_neg h, if_neg (by omega)]
theorem gloop_bits {s b len bit n w u : Int} (h : VF s b len bit n w u) (v : Int → Int) (hv : ∀ t, v t = 0 ∨ v t = 1) : ∀ (d : Nat) (k : Int) (l : List Int), 0 ≤ k → k + d = n → (l.length : Int) = numU bit n w → ∀ (i : Int) (j : Nat), 0 ≤ i → j < 64 →
    B (rd (gloop bit w v d k l) i) j = (B (rd l i) j || hit bit w v d k i j) := by
  intro d
  induction d with
  | zero => intro k l _ _ _ i j _ _; simp [gloop, hit]
  | succ d ih =>
    intro k l h0 hk hl i j hi hj
    have hb := uOf_bd h h0 (show k < n by omega)
    simp only [gloop, hit]
    rw [ih (k + 1) _ (by omega) (by omega) (by rw [List.length_set]; exact hl) i j hi hj, rd_set _ _ _ _ hi (by omega)]
    by_cases hu : i = uOf bit w k
    · rw [if_pos (by omega), B_or, B_shl (hv k) hb.2.2.1 (by omega) j hj, hu, decide_eq_true (rfl : uOf bit w k = uOf bit w k)]
      rw [Bool.true_and, Bool.or_assoc]
    · rw [if_neg (by omega), decide_eq_false hu]; simp
theorem gloop_rng (bit w : Int) (v : Int → Int) : ∀ (d : Nat) (k : Int) (l : List Int), (∀ z ∈ l, 0 ≤ z ∧ z < 18446744073709551616) → ∀ z ∈ gloop bit w v d k l, 0 ≤ z ∧ z < 18446744073709551616 := by
  intro d
  induction d with
  | zero => intro k l h; exact h
  | succ d ih =>
    intro k l h
    refine ih _ _ fun z hz => ?_
    rcases List.mem_or_eq_of_mem_set hz with hz | hz
    · exact h z hz
    · rw [hz]; exact bits_rng _ _ _
theorem rd_rng {l : List Int} (h : ∀ z ∈ l, 0 ≤ z ∧ z < 18446744073709551616) (i : Int) : 0 ≤ rd l i ∧ rd l i < 18446744073709551616 := by
  unfold rd
  rw [List.getD_eq_getElem?_getD]
  by_cases hi : i.toNat < l.length
  · rw [List.getElem?_eq_getElem hi]; exact h _ (List.getElem_mem hi)
  · rw [List.getElem?_eq_none (by omega)]; simp
theorem rd_zeros (c : Nat) (i : Int) : rd (List.replicate c 0) i = 0 := by
  unfold rd
  rw [List.getD_eq_getElem?_getD, List.getElem?_replicate]
  split <;> rfl
theorem mask_bits {s b len bit n w u : Int} (h : VF s b len bit n w u) {i : Int} (hi : 0 ≤ i) {j : Nat} (hj : j < 64) : B (rd (masksOf s b len bit n w u) i) j = hit bit w (fun _ => 1) n.toNat 0 i j := by
  have hn := numU_bd h
  have hn2 : 1 ≤ n ∧ n ≤ 256 := by unfold VF at h; omega
  unfold masksOf
  rw [if_pos h, gloop_bits h (fun _ => 1) (fun _ => Or.inr rfl) n.toNat 0 _ (by omega) (by omega) (by rw [List.length_replicate]; omega) i j hi hj, rd_zeros, B_zero, Bool.false_or]
/-! ### the number of bits of the masks -/
theorem B_ext {x y : Int} (hx : 0 ≤ x) (hx2 : x < 18446744073709551616) (hy : 0 ≤ y) (hy2 : y < 18446744073709551616) (h : ∀ j, j < 64 → B x j = B y j) : x = y := by
  obtain ⟨m, rfl⟩ := Int.eq_ofNat_of_zero_le hx
  obtain ⟨n, rfl⟩ := Int.eq_ofNat_of_zero_le hy
  have hm : m < 2 ^ 64 := by omega
  have hn : n < 2 ^ 64 := by omega
  have e : m = n := by
    refine Nat.eq_of_testBit_eq fun j => ?_
    by_cases hj : j < 64
    · rw [← B_nat m j hj, ← B_nat n j hj]; exact h j hj
    · rw [Nat.testBit_lt_two_pow (Nat.lt_of_lt_of_le hm (Nat.pow_le_pow_right (by decide) (by omega))), Nat.testBit_lt_two_pow (Nat.lt_of_lt_of_le hn (Nat.pow_le_pow_right (by decide) (by omega)))]
  rw [e]
/-- c ones behind t zeros. -/
def runs (t c : Nat) : Nat := (2 ^ c - 1) <<< t
theorem runs_all : ∀ t : Fin 64, ∀ c : Fin 65, (t : Nat) + c ≤ 64 → 0 < (c : Nat) → runs t c &&& (runs t c - 1) = runs (t + 1) (c - 1) ∧ 0 < runs t c ∧ runs t c < 2 ^ 64 := by decide +kernel
theorem runs_next {t c : Nat} (ht : t + c ≤ 64) (hc : 0 < c) : runs t c &&& (runs t c - 1) = runs (t + 1) (c - 1) ∧ 0 < runs t c ∧ runs t c < 2 ^ 64 := runs_all ⟨t, by omega⟩ ⟨c, by omega⟩ ht hc
theorem runs_bit (t c j : Nat) : (runs t c).testBit j = decide (t ≤ j ∧ j < t + c) := by
  unfold runs
  rw [Nat.testBit_shiftLeft, Nat.testBit_two_pow_sub_one, Bool.eq_iff_iff]
  simp
  omega
theorem runs_and {t c : Nat} (ht : t + c ≤ 64) (hc : 0 < c) : Go.bits .and .u64 ((runs t c : Nat) : Int) (IntKind.u64.wrap ((runs t c : Nat) - 1)) = ((runs (t + 1) (c - 1) : Nat) : Int) := by
  obtain ⟨h1, h2, h3⟩ := runs_next ht hc
  have e : IntKind.u64.wrap (((runs t c : Nat) : Int) - 1) = ((runs t c - 1 : Nat) : Int) := by
    generalize runs t c = m at h2 h3 ⊢
    rw [wrap_u64_id (by omega) (by omega)]; omega
  rw [e, (bits_nat .u64 64 (by decide) wraps_u64 (runs t c) (runs t c - 1) h3 (by omega)).1, h1]
/-- Which bits of unit i belong to bits k to k + d - 1 of the field. -/
theorem hit_run {bit w : Int} (hw : 0 < w) (hb : 0 ≤ bit) : ∀ (d : Nat) (k i : Int) (j : Nat), 0 ≤ k →
    hit bit w (fun _ => 1) d k i j = decide ((j : Int) < 8 * w ∧ bit + k ≤ 8 * w * (fstU bit w + i) + j ∧ 8 * w * (fstU bit w + i) + j < bit + k + d) := by
  intro d
  induction d with
  | zero => intro k i j _; simp only [hit]; rw [eq_comm, decide_eq_false_iff_not]; omega
  | succ d ih =>
    intro k i j hk
    simp only [hit]
    rw [ih (k + 1) i j (by omega), Bool.eq_iff_iff]
    have e : (i = uOf bit w k ∧ (j : Int) = pOf bit w k) ↔ ((j : Int) + 8 * w * (fstU bit w + i) = bit + k ∧ 0 ≤ (j : Int) ∧ (j : Int) < 8 * w) := by
      rw [← Int.ediv_emod_unique (show 0 < 8 * w by omega)]
      unfold uOf pOf fstU
      constructor <;> intro h <;> omega
    simp only [Bool.or_eq_true, Bool.and_eq_true, decide_eq_true_eq, true_and, e]
    generalize 8 * w * (fstU bit w + i) = X
    omega
/-- Where the bits of unit i begin, and how many they are. -/
def loU (bit w i : Int) : Int := if bit ≤ 8 * w * (fstU bit w + i) then 0 else bit - 8 * w * (fstU bit w + i)
def hiU (bit n w i : Int) : Int := if 8 * w * (fstU bit w + i) + 8 * w ≤ bit + n then 8 * w else bit + n - 8 * w * (fstU bit w + i)
theorem run_bd {s b len bit n w u : Int} (h : VF s b len bit n w u) {i : Int} (hi : 0 ≤ i) (hi2 : i < numU bit n w) : 0 ≤ loU bit w i ∧ loU bit w i < hiU bit n w i ∧ hiU bit n w i ≤ 8 * w ∧ 8 * w ≤ 64 := by
  have hf : 1 ≤ n ∧ 0 ≤ bit := by unfold VF at h; omega
  have hw : w = 1 ∨ w = 2 ∨ w = 4 ∨ w = 8 := by unfold VF at h; exact h.2.2.2.2.2.1
  unfold numU at hi2
  unfold loU hiU fstU
  rcases hw with rfl | rfl | rfl | rfl <;> (repeat (first | omega | split))
theorem mask_run {s b len bit n w u : Int} (h : VF s b len bit n w u) {i : Int} (hi : 0 ≤ i) (hi2 : i < numU bit n w) : rd (masksOf s b len bit n w u) i = ((runs (loU bit w i).toNat (hiU bit n w i - loU bit w i).toNat : Nat) : Int) := by
  obtain ⟨r1, r2, r3, r4⟩ := run_bd h hi hi2
  have hf : 1 ≤ n ∧ 0 ≤ bit ∧ 0 < w := by unfold VF at h; omega
  have hm : ∀ z ∈ masksOf s b len bit n w u, 0 ≤ z ∧ z < 18446744073709551616 := by
    unfold masksOf
    rw [if_pos h]
    exact gloop_rng _ _ _ _ _ _ (fun z hz => by rw [List.eq_of_mem_replicate hz]; omega)
  have hr := rd_rng hm i
  have hx := (runs_next (t := (loU bit w i).toNat) (c := (hiU bit n w i - loU bit w i).toNat) (by omega) (by omega)).2.2
  refine B_ext hr.1 hr.2 (by omega) (by omega) fun j hj => ?_
  rw [mask_bits h hi hj, B_nat _ _ hj, runs_bit, hit_run hf.2.2 hf.2.1 _ _ _ _ (by omega)]
  rw [decide_eq_decide]
  unfold loU hiU at *
  generalize 8 * w * (fstU bit w + i) = X at *
  constructor <;> intro hh <;> (repeat (first | omega | split at hh | split at r2 | split at r1 | split))
/-- How many bits of the field lie below unit i. -/
def below (bit n w i : Int) : Int := if i ≤ 0 then 0 else if bit + n ≤ 8 * w * (fstU bit w + i) then n else 8 * w * (fstU bit w + i) - bit
theorem below_step {s b len bit n w u : Int} (h : VF s b len bit n w u) {i : Int} (hi : 0 ≤ i) (hi2 : i < numU bit n w) : below bit n w i + (hiU bit n w i - loU bit w i) = below bit n w (i + 1) := by
  have hf : 1 ≤ n ∧ 0 ≤ bit := by unfold VF at h; omega
  have hw : w = 1 ∨ w = 2 ∨ w = 4 ∨ w = 8 := by unfold VF at h; exact h.2.2.2.2.2.1
  unfold numU at hi2
  unfold below loU hiU fstU
  rcases hw with rfl | rfl | rfl | rfl <;> (repeat (first | omega | split))
theorem below_all {s b len bit n w u : Int} (h : VF s b len bit n w u) : below bit n w (numU bit n w) = n := by
  have hf : 1 ≤ n ∧ 0 ≤ bit := by unfold VF at h; omega
  have hw : w = 1 ∨ w = 2 ∨ w = 4 ∨ w = 8 := by unfold VF at h; exact h.2.2.2.2.2.1
  unfold below numU fstU
  rcases hw with rfl | rfl | rfl | rfl <;> (repeat (first | omega | split))
/-- The accesses of a field's units, from unit x on. -/
def accU (s b w : Int) : Nat → Int → List S58
  | 0, _ => []
  | e + 1, x => ⟨s, b + x * w, w, false, 0⟩ :: accU s b w e (x + 1)
theorem accU_length (s b w : Int) : ∀ (e : Nat) (x : Int), (accU s b w e x).length = e
  | 0, _ => rfl
  | e + 1, x => by simp only [accU, List.length_cons, accU_length s b w e (x + 1)]
theorem accU_get (s b w : Int) : ∀ (e : Nat) (x : Int) (i : Nat), i < e → (accU s b w e x).getD i z58 = ⟨s, b + (x + i) * w, w, false, 0⟩ := by
  intro e
  induction e with
  | zero => intro x i h; omega
  | succ e ih =>
    intro x i h
    cases i with
    | zero => simp [accU]
    | succ i =>
      have := ih (x + 1) i (by omega)
      simp only [accU, List.getD_cons_succ]
      rw [this]
      congr 3
      omega
theorem unit_end {s b len bit n w u : Int} (h : VF s b len bit n w u) {x : Int} (h0 : fstU bit w ≤ x) (h1 : x < fstU bit w + numU bit n w) : 0 ≤ x ∧ x < 2000000 ∧ 0 ≤ x * w ∧ x * w + w ≤ len ∧ len ≤ 1048576 ∧ b + len ≤ 18446744073709551616 ∧ 1 ≤ w ∧ w ≤ 8 := by
  have hf : 1 ≤ n ∧ 0 ≤ bit ∧ len ≤ 1048576 ∧ b ≤ 18446744073709551615 - (len - 1) := by unfold VF at h; omega
  have hw : w = 1 ∨ w = 2 ∨ w = 4 ∨ w = 8 := by unfold VF at h; exact h.2.2.2.2.2.1
  have hl : ((bit + n - 1) / (8 * w) + 1) * w ≤ len := by unfold VF at h; omega
  unfold numU fstU at *
  rcases hw with rfl | rfl | rfl | rfl <;> omega
theorem accesses_loop {s b len bit n w u i d : Int} (h : VF s b len bit n w u) (hb : 0 ≤ b) : ∀ (e : Nat) (x : Int) (q : Nat) (l : List S58), fstU bit w ≤ x → x + e = fstU bit w + numU bit n w → e < q → (l.length : Int) = x - fstU bit w →
    field_Accesses.l0 q l (fstU bit w) (numU bit n w) x s b len bit n w u i d = some (l ++ accU s b w e x) := by
  have hn := numU_bd h
  intro e
  induction e with
  | zero =>
    intro x q l h0 hx hq hl
    obtain ⟨q, rfl⟩ : ∃ m, q = m + 1 := ⟨q - 1, by omega⟩
    simp only [field_Accesses.l0]
    rw [wrap64_id (by omega) (by omega), if_neg (by omega)]
    simp [accU]
  | succ e ih =>
    intro x q l h0 hx hq hl
    obtain ⟨q, rfl⟩ : ∃ m, q = m + 1 := ⟨q - 1, by omega⟩
    have hu := unit_end h h0 (by omega)
    simp only [field_Accesses.l0]
    rw [wrap64_id (a := fstU bit w + numU bit n w) (by omega) (by omega), if_pos (by omega), if_pos (by omega), wrap64_id (a := x + 1) (by omega) (by omega), wrap64_id (a := x * w) (by omega) (by omega), wrap_u64_id (a := x * w) (by omega) (by omega), wrap_u64_id (a := b + x * w) (by omega) (by omega), ih (x + 1) q _ (by omega) (by omega) (by omega) (by simp; omega)]
    simp [accU]
theorem fieldAccesses_eq {s b len bit n w u i d : Int} (hb : 0 ≤ b) (hb2 : b < 18446744073709551616) (hl : 0 ≤ len) (hl2 : len < 18446744073709551616) (k : Nat) (hk : 300 ≤ k) :
    field_Accesses.f k s b len bit n w u i d = some (if VF s b len bit n w u then accU s b w (numU bit n w).toNat (fstU bit w) else []) := by
  unfold field_Accesses.f
  rw [fieldUnits_eq hb hb2 hl hl2 k (by omega), Option.bind_some]
  by_cases h : VF s b len bit n w u
  · have hn := numU_bd h
    rw [if_pos h, if_pos h]
    simp only
    rw [accesses_loop h hb (numU bit n w).toNat (fstU bit w) k [] (by omega) (by omega) (by omega) (by simp)]
    simp
  · rw [if_neg h, if_neg h]
    simp only
    obtain ⟨k, rfl⟩ : ∃ m, k = m + 1 := ⟨k - 1, by omega⟩
    simp only [field_Accesses.l0]
    rw [if_neg (by rw [wrap64_id (by omega) (by omega)]; omega)]
theorem pop_loop (m : List Int) (l : List S58) {s b len bit n w u i d x7 : Int} (q : Nat) : ∀ (c t : Nat) (x6 : Int), t + c ≤ 64 → 0 ≤ x6 → x6 + c ≤ 100000 →
    platformfwlaw11_FieldUnitsCover.l1 (q + c + 1) m l x6 x7 ((runs t c : Nat) : Int) s b len bit n w u i d = platformfwlaw11_FieldUnitsCover.l0 q m l (x6 + c) (wrap64 (x7 + 1)) s b len bit n w u i d := by
  intro c
  induction c with
  | zero =>
    intro t x6 ht h0 h1
    have : runs t 0 = 0 := by unfold runs; simp
    rw [this]
    simp only [platformfwlaw11_FieldUnitsCover.l1]
    rw [if_neg (by decide)]; simp
  | succ c ih =>
    intro t x6 ht h0 h1
    have hr := runs_next ht (by omega)
    have hn := ih (t + 1) (x6 + 1) (by omega) (by omega)
    generalize hz : q + c + 1 = z at hn
    simp only [platformfwlaw11_FieldUnitsCover.l1]
    rw [if_pos (by omega), wrap64_id (a := x6 + 1) (by omega) (by omega), runs_and ht (by omega), show c + 1 - 1 = c from rfl, hn (by omega)]
    congr 1; omega
theorem below_bd {s b len bit n w u : Int} (h : VF s b len bit n w u) {x : Int} (h0 : 0 ≤ x) : 0 ≤ below bit n w x ∧ below bit n w x ≤ 10000 := by
  have hf : 1 ≤ n ∧ n ≤ 256 ∧ 0 ≤ bit := by unfold VF at h; omega
  have hw : w = 1 ∨ w = 2 ∨ w = 4 ∨ w = 8 := by unfold VF at h; exact h.2.2.2.2.2.1
  unfold below fstU
  rcases hw with rfl | rfl | rfl | rfl <;> (repeat (first | omega | split))
theorem cover_loop {s b len bit n w u i d : Int} (h : VF s b len bit n w u) (hb : 0 ≤ b) : ∀ (e : Nat) (x : Int) (q : Nat), 0 ≤ x → x + e = numU bit n w → 70 * e < q →
    platformfwlaw11_FieldUnitsCover.l0 q (masksOf s b len bit n w u) (accU s b w (numU bit n w).toNat (fstU bit w)) (below bit n w x) x s b len bit n w u i d = some true := by
  have hn := numU_bd h
  have hm := masksOf_length h
  have ha := accU_length s b w (numU bit n w).toNat (fstU bit w)
  have hf : 1 ≤ n ∧ n ≤ 256 := by unfold VF at h; omega
  intro e
  induction e with
  | zero =>
    intro x q h0 hx hq
    obtain ⟨q, rfl⟩ : ∃ m, q = m + 1 := ⟨q - 1, by omega⟩
    have : x = numU bit n w := by omega
    simp only [platformfwlaw11_FieldUnitsCover.l0]
    rw [if_neg (by omega), this, below_all h]
    simp
  | succ e ih =>
    intro x q h0 hx hq
    obtain ⟨q, rfl⟩ : ∃ m, q = m + 1 := ⟨q - 1, by omega⟩
    have hu := unit_end h (x := fstU bit w + x) (by omega) (by omega)
    have hr := run_bd h h0 (by omega)
    have hx2 : x < numU bit n w := by omega
    have hmr := mask_run h h0 hx2
    have hac : rd_T58 (accU s b w (numU bit n w).toNat (fstU bit w)) x = ⟨s, b + (fstU bit w + x) * w, w, false, 0⟩ := by
      unfold rd_T58
      rw [accU_get _ _ _ _ _ _ (by omega), Int.toNat_of_nonneg h0]
    have hst := below_step h h0 hx2
    have hnx := ih (x + 1)
    have hbl := below_bd h h0
    have hpos := (runs_next (t := (loU bit w x).toNat) (c := (hiU bit n w x - loU bit w x).toNat) (by omega) (by omega)).2.1
    simp only [platformfwlaw11_FieldUnitsCover.l0]
    rw [if_pos (by omega), if_pos h0, hmr, if_neg (by omega), if_pos (by omega), hac]
    simp only
    rw [if_neg (by omega), wrap_u64_id (a := b + (fstU bit w + x) * w - b) (by omega) (by omega), wrap_u64_id (a := w) (by omega) (by omega), wrap_u64_id (by omega) (by omega), if_neg (by omega), if_pos trivial, if_neg (by decide)]
    obtain ⟨q', hq'⟩ : ∃ q', q = q' + (hiU bit n w x - loU bit w x).toNat + 1 := ⟨q - (hiU bit n w x - loU bit w x).toNat - 1, by omega⟩
    rw [hq', pop_loop _ _ q' _ _ _ (by omega) hbl.1 (by omega), wrap64_id (a := x + 1) (by omega) (by omega), show below bit n w x + ((hiU bit n w x - loU bit w x).toNat : Int) = below bit n w (x + 1) by omega]
    exact hnx q' (by omega) (by omega) (by omega)
theorem FieldUnitsCover : St.FieldUnitsCover := by
  intro s b len bit n w u i d _ hb hl _ _ _ _ _ _
  have hb' := wf_u64 hb
  have hl' := wf_u64 hl
  obtain ⟨s', b', len', bit', n', w', u', i', d', he, h1, h2, h3, h4⟩ := spec_ex (s := s) (bit := bit) (n := n) (w := w) (u := u) (i := i) (d := d) hb'.1 hb'.2 hl'.1 hl'.2 100000 (by omega)
  refine ⟨100000, ?_⟩
  unfold platformfwlaw11_FieldUnitsCover.f
  rw [he, Option.bind_some]
  simp only
  rw [refValid_eq h1 h2 h3 h4 100000 (by omega), Option.bind_some, awake11_at 100000 (by omega), fieldMasks_eq h1 h2 h3 h4 100000 (by omega), fieldAccesses_eq h1 h2 h3 h4 100000 (by omega)]
  by_cases h : VF s' b' len' bit' n' w' u'
  · have hn := numU_bd h
    rw [if_pos (decide_eq_true h), Option.bind_some, if_pos h, Option.bind_some, Option.bind_some, if_pos rfl, if_pos (by rw [masksOf_length h, accU_length]; omega)]
    exact cover_loop h h1 (numU bit' n' w').toNat 0 100000 (by omega) (by omega) (by omega)
  · have hm : masksOf s' b' len' bit' n' w' u' = [] := by unfold masksOf; rw [if_neg h]
    rw [if_neg (by simpa using h), Option.bind_some, if_pos rfl, Option.bind_some, hm, if_pos (show ((([] : List Int).length : Int) = 0) from rfl), if_neg h, Option.bind_some]
    rfl
end Go.Proofs.Ytmnmidclaaiffaa.Pure
