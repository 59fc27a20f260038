/- Conversions between values and the bits of a field agree with the reference: the plain law. -/
import Derived.Test.YtmnmidclaaiffaaStFieldConverts
import Derived.Test.YtmnmidclaaiffaaVFieldConvertsBytes
import Derived.Test.YtmnmidclaaiffaaVFieldConvertsExt
namespace Go.Proofs.Ytmnmidclaaiffaa.Pure
open Go.RowKit Go.Proofs.Ytmnmidclaaiffaa.PFieldConverts Go.Proofs.YtmnmidclaaiffaaW.PrintWords Go.Proofs.YtmnmidclaaiffaaW.PrintLast Go.Proofs.YtmnmidclaaiffaaW.PrintMore Go.Proofs.Ytmnmidclaaiffaa.Plain
open Go.Proofs.Ytmnmidclaaiffaa.Ext
set_option linter.unusedVariables false
set_option linter.unusedSimpArgs false
theorem awake11 : platformfwlaw11_awake.f 20 = some true := by decide +kernel
theorem awake11_at (k : Nat) (hk : 20 ≤ k) : platformfwlaw11_awake.f k = some true := at_rounds platformfwlaw11_awake.mono hk awake11
/-! ### layer 11: which fields are valid, and the units of a field -/
/-- A valid field: space s, base b, length len, first bit, bits n, width w, update u. -/
def VF (s b len bit n w u : Int) : Prop :=
  (s = 0 ∨ s = 1 ∨ s = 3) ∧ 1 ≤ len ∧ len ≤ 1048576 ∧ b ≤ 18446744073709551615 - (len - 1) ∧ (s = 3 → b ≤ 255 ∧ b + len ≤ 256 ∧ w = 1) ∧ (w = 1 ∨ w = 2 ∨ w = 4 ∨ w = 8) ∧ b % w = 0 ∧ 0 ≤ u ∧ u ≤ 2 ∧ 0 ≤ bit ∧ bit < 8388608 ∧ 1 ≤ n ∧ n ≤ 256 ∧ ((bit + n - 1) / (8 * w) + 1) * w ≤ len
instance (s b len bit n w u : Int) : Decidable (VF s b len bit n w u) := by unfold VF; infer_instance
theorem tdiv_pos {a b : Int} (h : 0 ≤ a) : Int.tdiv a b = a / b := Int.tdiv_eq_ediv_of_nonneg h
theorem tmod_pos {a b : Int} (h : 0 ≤ a) : Int.tmod a b = a % b := Int.tmod_eq_emod_of_nonneg h
/-- The last test of both: the end of the last unit. -/
theorem end_eq {bit n w len : Int} (hw : w = 1 ∨ w = 2 ∨ w = 4 ∨ w = 8) (hb : 0 ≤ bit) (hb2 : bit ≤ 8388608) (hn : 1 ≤ n) (hn2 : n ≤ 256) :
    wrap64 (8 * w) = 8 * w ∧ (IntKind.u64.wrap (wrap64 ((wrap64 ((wrap64 (Int.tdiv (wrap64 ((wrap64 (bit + n)) - 1)) (wrap64 (8 * w)))) + 1)) * w))) = ((bit + n - 1) / (8 * w) + 1) * w := by
  have h8 : wrap64 (8 * w) = 8 * w := wrap64_id (by omega) (by omega)
  refine ⟨h8, ?_⟩
  rw [h8, wrap64_id (a := bit + n) (by omega) (by omega), wrap64_id (a := bit + n - 1) (by omega) (by omega), tdiv_pos (by omega)]
  rcases hw with rfl | rfl | rfl | rfl
  all_goals
    rw [wrap64_id (a := _ / _) (by omega) (by omega), wrap64_id (a := _ / _ + 1) (by omega) (by omega), wrap64_id (by omega) (by omega), wrap_u64_id (by omega) (by omega)]
theorem end_big {bit n w len : Int} (hw : w = 1 ∨ w = 2 ∨ w = 4 ∨ w = 8) (hb : bit = 8388608) (hn : 1 ≤ n) (hl : len ≤ 1048576) : ¬ ((bit + n - 1) / (8 * w) + 1) * w ≤ len := by
  rcases hw with rfl | rfl | rfl | rfl <;> omega
theorem validRegion_eq {s b len w : Int} (hb : 0 ≤ b) (hb2 : b < 18446744073709551616) (hl : 0 ≤ len) (hl2 : len < 18446744073709551616) (hw : w = 1 ∨ w = 2 ∨ w = 4 ∨ w = 8) (k : Nat) (hk : 3 ≤ k) :
    field_validRegion.f k s b len w = some (decide ((s = 0 ∨ s = 1 ∨ s = 3) ∧ 1 ≤ len ∧ len ≤ 1048576 ∧ b ≤ 18446744073709551615 - (len - 1) ∧ (s = 3 → b ≤ 255 ∧ b + len ≤ 256 ∧ w = 1) ∧ b % w = 0)) := by
  obtain ⟨k, rfl⟩ : ∃ m, k = m + 3 := ⟨k - 3, by omega⟩
  have hu : IntKind.u64.wrap w = w := wrap_u64_id (by omega) (by omega)
  unfold field_validRegion.f
  have bad : field_validRegion.j0 (k + 3) w true s b len = some false := by simp only [field_validRegion.j0]; rw [if_pos trivial]
  by_cases h1 : len < 1
  · rw [if_pos h1, bad]; congr 1; symm; rw [decide_eq_false_iff_not]; omega
  rw [if_neg h1]
  by_cases h2 : len > 1048576
  · rw [if_pos h2, bad]; congr 1; symm; rw [decide_eq_false_iff_not]; omega
  rw [if_neg h2, wrap_u64_id (a := len - 1) (by omega) (by omega), wrap_u64_id (a := 18446744073709551615 - b) (by omega) (by omega)]
  by_cases h3 : len - 1 > 18446744073709551615 - b
  · rw [if_pos h3, bad]; congr 1; symm; rw [decide_eq_false_iff_not]; omega
  rw [if_neg h3, hu, if_neg (by omega), tmod_pos hb]
  simp only [field_validRegion.j0]
  by_cases h4 : b % w = 0
  case neg =>
    rw [if_pos (by simpa using h4)]; congr 1; symm; rw [decide_eq_false_iff_not]; omega
  rw [if_neg (by simp [h4])]
  have fin : ∀ c : Bool, (c = true ↔ (s = 0 ∨ s = 1)) → field_validRegion.j1 (k + 2) w s c s b len = some (decide ((s = 0 ∨ s = 1 ∨ s = 3) ∧ 1 ≤ len ∧ len ≤ 1048576 ∧ b ≤ 18446744073709551615 - (len - 1) ∧ (s = 3 → b ≤ 255 ∧ b + len ≤ 256 ∧ w = 1) ∧ b % w = 0)) := by
    intro c hc
    simp only [field_validRegion.j1]
    by_cases h5 : s = 0 ∨ s = 1
    · rw [if_pos (hc.2 h5)]; congr 1; symm; rw [decide_eq_true_iff]; omega
    rw [if_neg (fun h => h5 (hc.1 h))]
    by_cases h6 : s = 3
    · rw [if_pos h6]
      by_cases h7 : w = 1
      · rw [if_pos h7]
        by_cases h8 : b < 256
        · rw [if_pos h8, wrap_u64_id (by omega) (by omega)]; congr 1; rw [decide_eq_decide]; omega
        · rw [if_neg h8]; congr 1; symm; rw [decide_eq_false_iff_not]; omega
      · rw [if_neg h7]; congr 1; symm; rw [decide_eq_false_iff_not]; omega
    · rw [if_neg h6]; congr 1; symm; rw [decide_eq_false_iff_not]; omega
  by_cases h5 : s = 0
  · rw [if_pos h5]; exact fin _ (by simp [h5])
  · rw [if_neg h5]; exact fin _ (by simp; omega)
theorem fieldValid_eq {s b len bit n w u i d : Int} (hb : 0 ≤ b) (hb2 : b < 18446744073709551616) (hl : 0 ≤ len) (hl2 : len < 18446744073709551616) (k : Nat) (hk : 6 ≤ k) :
    field_Valid.f k s b len bit n w u i d = some (decide (VF s b len bit n w u)) := by
  obtain ⟨k, rfl⟩ : ∃ m, k = m + 6 := ⟨k - 6, by omega⟩
  have key : (w = 1 ∨ w = 2 ∨ w = 4 ∨ w = 8) → field_Valid.j0 (k + 6) s b len bit n w u i d = some (decide (VF s b len bit n w u)) := by
    intro hw
    have bad : ¬ VF s b len bit n w u → field_Valid.j1 (k + 5) true s b len bit n w u i d = some (decide (VF s b len bit n w u)) := by
      intro h; simp only [field_Valid.j1]; rw [if_pos trivial]; congr 1; symm; rw [decide_eq_false_iff_not]; exact h
    simp only [field_Valid.j0]
    rw [validRegion_eq hb hb2 hl hl2 hw (k + 5) (by omega), Option.bind_some]
    by_cases h1 : ((s = 0 ∨ s = 1 ∨ s = 3) ∧ 1 ≤ len ∧ len ≤ 1048576 ∧ b ≤ 18446744073709551615 - (len - 1) ∧ (s = 3 → b ≤ 255 ∧ b + len ≤ 256 ∧ w = 1) ∧ b % w = 0)
    case neg => rw [if_neg (by rw [decide_eq_true_iff]; exact h1)]; exact bad (fun h => h1 (by unfold VF at h; exact ⟨h.1, h.2.1, h.2.2.1, h.2.2.2.1, h.2.2.2.2.1, h.2.2.2.2.2.2.1⟩))
    rw [if_pos (by rw [decide_eq_true_iff]; exact h1)]
    by_cases h2 : u < 0
    · rw [if_pos h2]; exact bad (fun h => by unfold VF at h; omega)
    rw [if_neg h2]
    by_cases h3 : u > 2
    · rw [if_pos h3]; exact bad (fun h => by unfold VF at h; omega)
    rw [if_neg h3]
    by_cases h4 : n < 1
    · rw [if_pos h4]; exact bad (fun h => by unfold VF at h; omega)
    rw [if_neg h4]
    by_cases h5 : n > 256
    · rw [decide_eq_true h5]; exact bad (fun h => by unfold VF at h; omega)
    rw [decide_eq_false h5]
    simp only [field_Valid.j1]
    rw [if_neg (by decide)]
    by_cases h6 : bit < 0
    · rw [if_pos h6]; congr 1; symm; rw [decide_eq_false_iff_not]; intro h; unfold VF at h; omega
    rw [if_neg h6]
    by_cases h7 : bit ≥ 8388608
    · rw [if_pos h7]; congr 1; symm; rw [decide_eq_false_iff_not]; intro h; unfold VF at h; omega
    rw [if_neg h7]
    obtain ⟨e1, e2⟩ := end_eq (len := len) hw (bit := bit) (n := n) (by omega) (by omega) (by omega) (by omega)
    rw [e2, e1, if_neg (by omega)]
    congr 1; rw [decide_eq_decide]; unfold VF
    constructor
    · intro h; exact ⟨h1.1, h1.2.1, h1.2.2.1, h1.2.2.2.1, h1.2.2.2.2.1, hw, h1.2.2.2.2.2, by omega, by omega, by omega, by omega, by omega, by omega, h⟩
    · intro h; exact h.2.2.2.2.2.2.2.2.2.2.2.2.2
  unfold field_Valid.f
  by_cases w1 : w = 1
  · rw [if_pos w1]; exact key (by omega)
  rw [if_neg w1]
  by_cases w2 : w = 2
  · rw [if_pos w2]; exact key (by omega)
  rw [if_neg w2]
  by_cases w4 : w = 4
  · rw [if_pos w4]; exact key (by omega)
  rw [if_neg w4]
  by_cases w8 : w = 8
  · rw [if_pos w8]; exact key (by omega)
  rw [if_neg w8]
  congr 1; symm; rw [decide_eq_false_iff_not]; intro h; unfold VF at h; omega
theorem refValid_eq {s b len bit n w u i d : Int} (hb : 0 ≤ b) (hb2 : b < 18446744073709551616) (hl : 0 ≤ len) (hl2 : len < 18446744073709551616) (k : Nat) (hk : 6 ≤ k) :
    platformfwref09_ValidField.f k s b len bit n w u i d = some (decide (VF s b len bit n w u)) := by
  obtain ⟨k, rfl⟩ : ∃ m, k = m + 6 := ⟨k - 6, by omega⟩
  have no : ¬ VF s b len bit n w u → some false = some (decide (VF s b len bit n w u)) := fun h => by congr 1; symm; rw [decide_eq_false_iff_not]; exact h
  have bad0 : ¬ VF s b len bit n w u → platformfwref09_ValidField.j0 (k + 6) true s b len bit n w u i d s b len = some (decide (VF s b len bit n w u)) := by
    intro h; simp only [platformfwref09_ValidField.j0]; rw [if_pos trivial]; exact no h
  have bad1 : ¬ VF s b len bit n w u → platformfwref09_ValidField.j1 (k + 5) true s b len bit n w u i d s b len = some (decide (VF s b len bit n w u)) := by
    intro h; simp only [platformfwref09_ValidField.j1]; rw [if_pos trivial]; exact no h
  have bad2 : ¬ VF s b len bit n w u → platformfwref09_ValidField.j2 (k + 4) true s b len bit n w u i d s b len = some (decide (VF s b len bit n w u)) := by
    intro h; simp only [platformfwref09_ValidField.j2]; rw [if_pos trivial]; exact no h
  have key2 : (s = 0 ∨ s = 1 ∨ s = 3) → 1 ≤ len → len ≤ 1048576 → b ≤ 18446744073709551615 - (len - 1) → (s = 3 → b ≤ 255 ∧ b + len ≤ 256 ∧ w = 1) → (w = 1 ∨ w = 2 ∨ w = 4 ∨ w = 8) → b % w = 0 → 0 ≤ u →
      platformfwref09_ValidField.j2 (k + 4) (decide (u > 2)) s b len bit n w u i d s b len = some (decide (VF s b len bit n w u)) := by
    intro a1 a2 a3 a4 a5 hw a7 a8
    by_cases h1 : u > 2
    · rw [decide_eq_true h1]; exact bad2 (fun h => by unfold VF at h; omega)
    rw [decide_eq_false h1]
    simp only [platformfwref09_ValidField.j2]
    rw [if_neg (by decide)]
    by_cases h2 : bit < 0
    · rw [if_pos h2]; exact no (fun h => by unfold VF at h; omega)
    rw [if_neg h2]
    by_cases h3 : bit > 8388608
    · rw [if_pos h3]; exact no (fun h => by unfold VF at h; omega)
    rw [if_neg h3]
    by_cases h4 : n < 1
    · rw [if_pos h4]; exact no (fun h => by unfold VF at h; omega)
    rw [if_neg h4]
    by_cases h5 : n > 256
    · rw [if_pos h5]; exact no (fun h => by unfold VF at h; omega)
    rw [if_neg h5]
    obtain ⟨e1, e2⟩ := end_eq (len := len) hw (bit := bit) (n := n) (by omega) (by omega) (by omega) (by omega)
    rw [e2, e1, if_neg (by omega)]
    congr 1; rw [decide_eq_decide]; unfold VF
    constructor
    · intro h
      have : bit ≠ 8388608 := fun hb => end_big hw hb (n := n) (by omega) a3 h
      exact ⟨a1, a2, a3, a4, a5, hw, a7, a8, by omega, by omega, by omega, by omega, by omega, h⟩
    · intro h; exact h.2.2.2.2.2.2.2.2.2.2.2.2.2
  have key1 : (s = 0 ∨ s = 1 ∨ s = 3) → 1 ≤ len → len ≤ 1048576 → b ≤ 18446744073709551615 - (len - 1) → (s = 3 → b ≤ 255 ∧ b + len ≤ 256 ∧ w = 1) →
      platformfwref09_ValidField.j1 (k + 5) false s b len bit n w u i d s b len = some (decide (VF s b len bit n w u)) := by
    intro a1 a2 a3 a4 a5
    have each : (w = 1 ∨ w = 2 ∨ w = 4 ∨ w = 8) → (if (IntKind.u64.wrap (w)) = 0 then (none) else (if (Int.tmod b (IntKind.u64.wrap (w))) = 0 then (if u < 0 then (platformfwref09_ValidField.j2 (k + 4) true s b len bit n w u i d s b len) else (platformfwref09_ValidField.j2 (k + 4) (decide (u > 2)) s b len bit n w u i d s b len)) else (platformfwref09_ValidField.j2 (k + 4) true s b len bit n w u i d s b len))) = some (decide (VF s b len bit n w u)) := by
      intro hw
      rw [wrap_u64_id (a := w) (by omega) (by omega), if_neg (by omega), tmod_pos hb]
      by_cases h1 : b % w = 0
      · rw [if_pos h1]
        by_cases h2 : u < 0
        · rw [if_pos h2]; exact bad2 (fun h => by unfold VF at h; omega)
        · rw [if_neg h2]; exact key2 a1 a2 a3 a4 a5 hw h1 (by omega)
      · rw [if_neg h1]; exact bad2 (fun h => by unfold VF at h; exact h1 h.2.2.2.2.2.2.1)
    simp only [platformfwref09_ValidField.j1]
    rw [if_neg (by decide)]
    by_cases w1 : w = 1
    · rw [if_pos w1]; exact each (by omega)
    rw [if_neg w1]
    by_cases w2 : w = 2
    · rw [if_pos w2]; exact each (by omega)
    rw [if_neg w2]
    by_cases w4 : w = 4
    · rw [if_pos w4]; exact each (by omega)
    rw [if_neg w4]
    by_cases w8 : w = 8
    · rw [if_pos w8]; exact each (by omega)
    rw [if_neg w8]; exact bad2 (fun h => by unfold VF at h; omega)
  have key0 : (s = 0 ∨ s = 1 ∨ s = 3) → (if len < 1 then (platformfwref09_ValidField.j0 (k + 6) true s b len bit n w u i d s b len) else (if len > 1048576 then (platformfwref09_ValidField.j0 (k + 6) true s b len bit n w u i d s b len) else (platformfwref09_ValidField.j0 (k + 6) (decide (b > (IntKind.u64.wrap (18446744073709551615 - (IntKind.u64.wrap (len - 1)))))) s b len bit n w u i d s b len))) = some (decide (VF s b len bit n w u)) := by
    intro a1
    by_cases h1 : len < 1
    · rw [if_pos h1]; exact bad0 (fun h => by unfold VF at h; omega)
    rw [if_neg h1]
    by_cases h2 : len > 1048576
    · rw [if_pos h2]; exact bad0 (fun h => by unfold VF at h; omega)
    rw [if_neg h2, wrap_u64_id (a := len - 1) (by omega) (by omega), wrap_u64_id (a := 18446744073709551615 - (len - 1)) (by omega) (by omega)]
    by_cases h3 : b > 18446744073709551615 - (len - 1)
    · rw [decide_eq_true h3]; exact bad0 (fun h => by unfold VF at h; omega)
    rw [decide_eq_false h3]
    simp only [platformfwref09_ValidField.j0]
    rw [if_neg (by decide)]
    by_cases h4 : s = 3
    · rw [if_pos h4]
      by_cases h5 : b > 255
      · rw [if_pos h5]; exact bad1 (fun h => by unfold VF at h; omega)
      rw [if_neg h5, wrap_u64_id (a := b + len) (by omega) (by omega)]
      by_cases h6 : b + len > 256
      · rw [if_pos h6]; exact bad1 (fun h => by unfold VF at h; omega)
      rw [if_neg h6]
      by_cases h7 : w = 1
      · rw [show (w != 1) = false by simp [h7]]; exact key1 a1 (by omega) (by omega) (by omega) (by omega)
      · rw [show (w != 1) = true by simp [h7]]; exact bad1 (fun h => by unfold VF at h; omega)
    · rw [if_neg h4]; exact key1 a1 (by omega) (by omega) (by omega) (by omega)
  unfold platformfwref09_ValidField.f
  by_cases s0 : s = 0
  · rw [if_pos s0]; exact key0 (by omega)
  rw [if_neg s0]
  by_cases s1 : s = 1
  · rw [if_pos s1]; exact key0 (by omega)
  rw [if_neg s1]
  by_cases s3 : s = 3
  · rw [if_pos s3]; exact key0 (by omega)
  rw [if_neg s3]; exact bad0 (fun h => by unfold VF at h; omega)
/-- The first unit and the number of units. -/
def fstU (bit w : Int) : Int := bit / (8 * w)
def numU (bit n w : Int) : Int := (bit + n - 1) / (8 * w) - bit / (8 * w) + 1
theorem numU_bd {s b len bit n w u : Int} (h : VF s b len bit n w u) : 1 ≤ numU bit n w ∧ numU bit n w ≤ 257 ∧ 0 ≤ fstU bit w ∧ fstU bit w < 1048577 := by
  unfold VF at h; unfold numU fstU
  rcases h.2.2.2.2.2.1 with rfl | rfl | rfl | rfl <;> omega
theorem units_raw {s b len bit n w u : Int} (h : VF s b len bit n w u) : wrap64 (8 * w) = 8 * w ∧ 8 * w ≠ 0 ∧ wrap64 (Int.tdiv bit (wrap64 (8 * w))) = fstU bit w ∧ wrap64 ((wrap64 ((wrap64 (Int.tdiv (wrap64 ((wrap64 (bit + n)) - 1)) (wrap64 (8 * w)))) - (wrap64 (Int.tdiv bit (wrap64 (8 * w)))))) + 1) = numU bit n w := by
  unfold VF at h; unfold numU fstU
  have h8 : wrap64 (8 * w) = 8 * w := wrap64_id (by omega) (by omega)
  refine ⟨h8, by omega, ?_, ?_⟩
  · rw [h8, tdiv_pos (by omega)]
    rcases h.2.2.2.2.2.1 with rfl | rfl | rfl | rfl <;> exact wrap64_id (by omega) (by omega)
  · rw [h8, wrap64_id (a := bit + n) (by omega) (by omega), wrap64_id (a := bit + n - 1) (by omega) (by omega), tdiv_pos (by omega), tdiv_pos (by omega)]
    rcases h.2.2.2.2.2.1 with rfl | rfl | rfl | rfl
    all_goals
      rw [wrap64_id (a := (bit + n - 1) / _) (by omega) (by omega), wrap64_id (a := bit / _) (by omega) (by omega), wrap64_id (a := _ / _ - _ / _) (by omega) (by omega), wrap64_id (by omega) (by omega)]
theorem fieldUnits_eq {s b len bit n w u i d : Int} (hb : 0 ≤ b) (hb2 : b < 18446744073709551616) (hl : 0 ≤ len) (hl2 : len < 18446744073709551616) (k : Nat) (hk : 6 ≤ k) :
    field_Units.f k s b len bit n w u i d = some (if VF s b len bit n w u then (fstU bit w, numU bit n w) else (0, 0)) := by
  unfold field_Units.f
  rw [fieldValid_eq hb hb2 hl hl2 k hk, Option.bind_some]
  by_cases h : VF s b len bit n w u
  · obtain ⟨e1, e2, e3, e4⟩ := units_raw h
    rw [decide_eq_true h, if_pos rfl, if_pos h, e4, e3, e1, if_neg e2]
  · rw [decide_eq_false h, if_neg (by decide), if_neg h]
/-! ### layer 11: the field that is made out of an arbitrary one -/
theorem mod_ex (a n : Int) (h0 : 0 < n) (h1 : n < 9223372036854775808) : ∃ r, platformfwhelp_Mod.f a n = some r ∧ 0 ≤ r ∧ r < n := by
  unfold platformfwhelp_Mod.f
  have hu : IntKind.u64.wrap n = n := wrap_u64_id (by omega) (by omega)
  have ha : 0 ≤ IntKind.u64.wrap a := by rw [wrap_u64]; omega
  rw [hu, if_neg (by omega), tmod_pos ha]
  have h2 := Int.emod_nonneg (IntKind.u64.wrap a) (show n ≠ 0 by omega)
  have h3 := Int.emod_lt_of_pos (IntKind.u64.wrap a) h0
  rw [wrap64_id (by omega) (by omega)]
  exact ⟨_, rfl, h2, h3⟩
theorem wrap_u64_rng (x : Int) : 0 ≤ IntKind.u64.wrap x ∧ IntKind.u64.wrap x < 18446744073709551616 := by rw [wrap_u64]; omega
theorem spec_ex {s b len bit n w u i d : Int} (hb : 0 ≤ b) (hb2 : b < 18446744073709551616) (hl : 0 ≤ len) (hl2 : len < 18446744073709551616) (k : Nat) (hk : 1 ≤ k) :
    ∃ s' b' len' bit' n' w' u' i' d' : Int, platformfwlaw11_spec.f k s b len bit n w u i d = some (s', b', len', bit', n', w', u', i', d') ∧ 0 ≤ b' ∧ b' < 18446744073709551616 ∧ 0 ≤ len' ∧ len' < 18446744073709551616 := by
  obtain ⟨k, rfl⟩ : ∃ m, k = m + 1 := ⟨k - 1, by omega⟩
  obtain ⟨r1, e1, _, _⟩ := mod_ex i 8 (by omega) (by omega)
  obtain ⟨r2, e2, h2, h2'⟩ := mod_ex w 4 (by omega) (by omega)
  obtain ⟨r3, e3, h3, h3'⟩ := mod_ex s 4 (by omega) (by omega)
  obtain ⟨r4, e4, h4, h4'⟩ := mod_ex bit 400 (by omega) (by omega)
  obtain ⟨r5, e5, h5, h5'⟩ := mod_ex n 100 (by omega) (by omega)
  obtain ⟨r6, e6, h6, h6'⟩ := mod_ex u 3 (by omega) (by omega)
  obtain ⟨r7, e7, h7, h7'⟩ := mod_ex n 9 (by omega) (by omega)
  obtain ⟨r8, e8, h8, h8'⟩ := mod_ex bit 3 (by omega) (by omega)
  have j0 : ∀ x4 y0 y1 y2 y3 y4 y5 y6 y7 y8 : Int, 0 ≤ y1 → y1 < 18446744073709551616 → 0 ≤ y2 → y2 < 18446744073709551616 → ∃ s' b' len' bit' n' w' u' i' d' : Int, platformfwlaw11_spec.j0 (k + 1) x4 s b len bit n w u i d y0 y1 y2 y3 y4 y5 y6 y7 y8 = some (s', b', len', bit', n', w', u', i', d') ∧ 0 ≤ b' ∧ b' < 18446744073709551616 ∧ 0 ≤ len' ∧ len' < 18446744073709551616 := by
    intro x4 y0 y1 y2 y3 y4 y5 y6 y7 y8 a1 a2 a3 a4
    simp only [platformfwlaw11_spec.j0]
    rw [e1]
    simp only [Option.bind_some]
    split <;> split <;> exact ⟨_, _, _, _, _, _, _, _, _, rfl, by omega, by omega, by omega, by omega⟩
  unfold platformfwlaw11_spec.f
  rw [e1]
  simp only [Option.bind_some]
  by_cases c1 : r1 = 7
  · rw [if_pos c1]; exact ⟨_, _, _, _, _, _, _, _, _, rfl, hb, hb2, hl, hl2⟩
  rw [if_neg c1, e2]
  simp only [Option.bind_some]
  rw [if_pos (wrap_u64_rng r2).1, e3]
  simp only [Option.bind_some]
  rw [if_pos h3, if_pos (by simpa using h3'), e4]
  simp only [Option.bind_some]
  rw [e5]
  simp only [Option.bind_some]
  rw [e6]
  simp only [Option.bind_some]
  rw [e7]
  simp only [Option.bind_some]
  by_cases c2 : r7 = 8
  · rw [if_pos c2, e8]
    simp only [Option.bind_some]
    exact j0 _ _ _ _ _ _ _ _ _ _ (wrap_u64_rng _).1 (wrap_u64_rng _).2 (wrap_u64_rng _).1 (wrap_u64_rng _).2
  · rw [if_neg c2]
    exact j0 _ _ _ _ _ _ _ _ _ _ (wrap_u64_rng _).1 (wrap_u64_rng _).2 (wrap_u64_rng _).1 (wrap_u64_rng _).2
theorem and_one (x : Int) : Go.bits .and .u64 x 1 = 0 ∨ Go.bits .and .u64 x 1 = 1 := by
  unfold Go.bits
  simp only [IntKind.bits]
  have h : ∀ b : BitVec 64, b &&& BitVec.ofInt 64 1 = 0#64 ∨ b &&& BitVec.ofInt 64 1 = 1#64 := by
    intro b
    rw [show BitVec.ofInt 64 1 = 1#64 by decide]
    rcases Nat.mod_two_eq_zero_or_one b.toNat with h | h
    · left; apply BitVec.eq_of_toNat_eq; rw [BitVec.toNat_and]; show b.toNat &&& 1 = 0; rw [Nat.and_one_is_mod, h]
    · right; apply BitVec.eq_of_toNat_eq; rw [BitVec.toNat_and]; show b.toNat &&& 1 = 1; rw [Nat.and_one_is_mod, h]
  rcases h (BitVec.ofInt 64 x) with h | h
  · left; exact (congrArg (fun b : BitVec 64 => IntKind.u64.wrap (b.toNat : Int)) h).trans (by decide)
  · right; exact (congrArg (fun b : BitVec 64 => IntKind.u64.wrap (b.toNat : Int)) h).trans (by decide)
theorem put_two {v t : Int} (hv : v = 0 ∨ v = 1) (h0 : 0 ≤ t) (h1 : t < 8) : shl .u8 (v % 256) t = v * 2 ^ t.toNat ∧ shl .u64 v t % 256 = v * 2 ^ t.toNat := by
  have h : t = 0 ∨ t = 1 ∨ t = 2 ∨ t = 3 ∨ t = 4 ∨ t = 5 ∨ t = 6 ∨ t = 7 := by omega
  rcases hv with rfl | rfl <;> rcases h with rfl | rfl | rfl | rfl | rfl | rfl | rfl | rfl <;> decide
/-! ### layer 11: putting bits in -/
def sbit (a : ByteArray) (k : Int) : Int := if k / 8 ≥ (a.size : Int) then 0 else Go.bits .and .u64 (IntKind.u64.wrap (shr .u8 (bt a (k / 8)) (k % 8))) 1
theorem bit_two (a : ByteArray) {k : Int} (h0 : 0 ≤ k) (h1 : k < 1000) : field_bit.f a k = some (sbit a k) ∧ platformfwref09_bit.f a k = some (sbit a k) := by
  have f1 : wrap64 (Int.tdiv k 8) = k / 8 := by rw [tdiv_pos h0]; exact wrap64_id (by omega) (by omega)
  have f2 : IntKind.u64.wrap (k % 8) = k % 8 := wrap_u64_id (by omega) (by omega)
  unfold field_bit.f platformfwref09_bit.f sbit
  rw [f1, tmod_pos h0, f2]
  by_cases h : k / 8 ≥ (a.size : Int)
  · rw [if_pos h, if_pos h]; exact ⟨rfl, rfl⟩
  · rw [if_neg h, if_neg h, if_pos (by omega), if_pos (by omega), if_pos (by omega)]; exact ⟨rfl, rfl⟩
theorem sbit_two (a : ByteArray) (t : Int) : sbit a t = 0 ∨ sbit a t = 1 := by
  unfold sbit
  split
  · exact Or.inl rfl
  · exact and_one _
/-- Bit after bit goes into the bytes l; v tells them. -/
def bloop (v : Int → Int) : Nat → Int → List Int → List Int
  | 0, _, l => l
  | d + 1, k, l => bloop v d (k + 1) (l.set (k / 8).toNat (Go.bits .or .u8 (rd l (k / 8)) (v k * 2 ^ (k % 8).toNat)))
theorem bloop_length (v : Int → Int) : ∀ (d : Nat) (k : Int) (l : List Int), (bloop v d k l).length = l.length
  | 0, _, _ => rfl
  | d + 1, k, l => by rw [bloop, bloop_length v d, List.length_set]
theorem value_loop {s b len bit n w u i d : Int} (hn : 1 ≤ n ∧ n ≤ 256) (x : ByteArray) : ∀ (e : Nat) (k : Int) (q : Nat) (l : List Int), 0 ≤ k → k + e = n → e < q → (l.length : Int) = (n + 7) / 8 →
    platformfwref09_FromValue.l0 q x l k s b len bit n w u i d = some (strOfNums (bloop (sbit x) e k l), 0) := by
  intro e
  induction e with
  | zero =>
    intro k q l h0 hk hq hl
    obtain ⟨q, rfl⟩ : ∃ m, q = m + 1 := ⟨q - 1, by omega⟩
    simp only [platformfwref09_FromValue.l0]; rw [if_neg (by omega)]; rfl
  | succ e ih =>
    intro k q l h0 hk hq hl
    obtain ⟨q, rfl⟩ : ∃ m, q = m + 1 := ⟨q - 1, by omega⟩
    have f1 : wrap64 (Int.tdiv k 8) = k / 8 := by rw [tdiv_pos h0]; exact wrap64_id (by omega) (by omega)
    have f2 : IntKind.u64.wrap (Int.tmod k 8) = k % 8 := by rw [tmod_pos h0]; exact wrap_u64_id (by omega) (by omega)
    simp only [platformfwref09_FromValue.l0]
    rw [if_pos (by omega), f1, f2, if_pos (by omega), if_pos (by omega), (bit_two x h0 (by omega)).2, Option.bind_some, if_pos (by omega), wrap64_id (a := k + 1) (by omega) (by omega), (put_two (sbit_two x k) (t := k % 8) (by omega) (by omega)).2]
    exact ih (k + 1) q _ (by omega) (by omega) (by omega) (by rw [List.length_set]; exact hl)
/-! ### layer 11: conversions -/
theorem normal_eq {s b len bit n w u i d : Int} (hn : 1 ≤ n ∧ n ≤ 256) (x : ByteArray) (k : Nat) (hk : 300 ≤ k) : field_normal.f k s b len bit n w u i d x = some (strOfNums (bloop (sbit x) n.toNat 0 (List.replicate ((n + 7) / 8).toNat 0))) := by
  have loop : ∀ (e : Nat) (j : Int) (q : Nat) (l : List Int), 0 ≤ j → j + e = n → e < q → (l.length : Int) = (n + 7) / 8 → field_normal.l0 q x l n j = some (strOfNums (bloop (sbit x) e j l)) := by
    intro e
    induction e with
    | zero =>
      intro j q l h0 hj hq hl
      obtain ⟨q, rfl⟩ : ∃ m, q = m + 1 := ⟨q - 1, by omega⟩
      simp only [field_normal.l0]; rw [if_neg (by omega)]; rfl
    | succ e ih =>
      intro j q l h0 hj hq hl
      obtain ⟨q, rfl⟩ : ∃ m, q = m + 1 := ⟨q - 1, by omega⟩
      have f1 : wrap64 (Int.tdiv j 8) = j / 8 := by rw [tdiv_pos h0]; exact wrap64_id (by omega) (by omega)
      have f2 : Int.tmod j 8 = j % 8 := tmod_pos h0
      simp only [field_normal.l0]
      rw [if_pos (by omega), f1, f2, if_pos (by omega), if_pos (by omega), (bit_two x h0 (by omega)).1, Option.bind_some, if_pos (by omega), wrap64_id (a := j + 1) (by omega) (by omega), (put_two (sbit_two x j) (t := j % 8) (by omega) (by omega)).1]
      exact ih (j + 1) q _ (by omega) (by omega) (by omega) (by rw [List.length_set]; exact hl)
  unfold field_normal.f field_size.f
  rw [Option.bind_some, wrap64_id (a := n + 8) (by omega) (by omega), wrap64_id (a := n + 8 - 1) (by omega) (by omega), tdiv_pos (by omega), wrap64_id (by omega) (by omega), show n + 8 - 1 = n + 7 by omega, if_pos (by omega), if_pos (by omega)]
  exact loop n.toNat 0 k _ (by omega) (by omega) (by omega) (by rw [List.length_replicate]; omega)
theorem norm_size (x : ByteArray) {n : Int} (hn : 1 ≤ n ∧ n ≤ 256) : (strOfNums (bloop (sbit x) n.toNat 0 (List.replicate ((n + 7) / 8).toNat 0))).size ≤ 32 := by
  rw [strOfNums_size', bloop_length, List.length_replicate]; omega
/-- The eight bytes of a number. -/
def bytes8 (v : Int) : List Int := (List.range 8).map fun j : Nat => shr .u64 v (8 * (j : Int)) % 256
theorem eight_eq (v : Int) (k : Nat) (hk : 20 ≤ k) : value_eight.f k v = some (strOfNums (bytes8 v)) := by
  have loop : ∀ (e : Nat) (j : Nat) (q : Nat) (l : List Int), j + e = 8 → e < q → l = ((List.range j).map fun j : Nat => shr .u64 v (8 * (j : Int)) % 256) ++ List.replicate (8 - j) 0 → value_eight.l0 q v l 8 j = some (strOfNums (bytes8 v)) := by
    intro e
    induction e with
    | zero =>
      intro j q l hj hq hl
      obtain ⟨q, rfl⟩ : ∃ m, q = m + 1 := ⟨q - 1, by omega⟩
      obtain rfl : j = 8 := by omega
      simp only [value_eight.l0]; rw [if_neg (by omega), hl]; simp [bytes8]
    | succ e ih =>
      intro j q l hj hq hl
      obtain ⟨q, rfl⟩ : ∃ m, q = m + 1 := ⟨q - 1, by omega⟩
      have hlen : l.length = 8 := by rw [hl, List.length_append, List.length_map, List.length_range, List.length_replicate]; omega
      simp only [value_eight.l0]
      rw [if_pos (by omega), wrap64_id (a := 8 * (j : Int)) (by omega) (by omega), if_pos (by omega), if_pos (by omega), if_pos (by omega), wrap64_id (a := (j : Int) + 1) (by omega) (by omega), Int.toNat_natCast]
      refine ih (j + 1) q _ (by omega) (by omega) ?_
      have hx1 : ((List.range j).map fun j : Nat => shr .u64 v (8 * (j : Int)) % 256).length = j := by rw [List.length_map, List.length_range]
      rw [hl, List.set_append_right _ _ (by omega), hx1, Nat.sub_self, show 8 - j = (8 - (j + 1)) + 1 by omega, List.replicate_succ, List.set_cons_zero, List.range_succ, List.map_append]
      simp
  unfold value_eight.f
  rw [if_pos (by omega), Option.bind_some]
  exact loop 8 0 k _ (by omega) (by omega) (by simp)
theorem little8_eq (v : Int) (k : Nat) (hk : 20 ≤ k) : platformfwref08_little.f k v = some (strOfNums (bytes8 v)) := by
  have loop : ∀ (e : Nat) (j : Nat) (q : Nat) (x : ByteArray), j + e = 8 → e < q → x = strOfNums ((List.range j).map fun j : Nat => shr .u64 v (8 * (j : Int)) % 256) → platformfwref08_little.l0 q v x j = some (strOfNums (bytes8 v)) := by
    intro e
    induction e with
    | zero =>
      intro j q x hj hq hx
      obtain ⟨q, rfl⟩ : ∃ m, q = m + 1 := ⟨q - 1, by omega⟩
      obtain rfl : j = 8 := by omega
      simp only [platformfwref08_little.l0]; rw [if_neg (by omega), hx]; rfl
    | succ e ih =>
      intro j q x hj hq hx
      obtain ⟨q, rfl⟩ : ∃ m, q = m + 1 := ⟨q - 1, by omega⟩
      have hs : x.size = j := by rw [hx, strOfNums_size', List.length_map, List.length_range]
      simp only [platformfwref08_little.l0]
      rw [if_pos (by omega), wrap64_id (a := 8 * (j : Int)) (by omega) (by omega), wrap_u64_id (a := 8 * (j : Int)) (by omega) (by omega), if_pos (by omega), Option.bind_some, strOfNums_size', if_pos (by simp; omega), wrap64_id (a := (j : Int) + 1) (by omega) (by omega)]
      refine ih (j + 1) q _ (by omega) (by omega) ?_
      rw [hx, ← strOfNums_append, List.range_succ, List.map_append]; rfl
  unfold platformfwref08_little.f
  exact loop 8 0 k _ (by omega) (by omega) rfl
theorem valids (k0 a : Int) (x : ByteArray) (o : Int) : value_Valid.f k0 a x o = platformfwref08_Valid.f k0 a x o := by
  unfold value_Valid.f platformfwref08_Valid.f
  by_cases h2 : k0 = 2
  · rw [if_pos h2, if_pos (by omega), if_pos (by omega), if_pos h2]
  · rw [if_neg h2]
    by_cases h3 : k0 = 3
    · rw [if_pos h3, if_pos (by omega), if_pos (by omega), if_neg h2, if_pos h3]
    · rw [if_neg h3]
      by_cases h0 : k0 ≥ 0
      · rw [if_pos h0, if_pos h0]
        by_cases h6 : k0 ≤ 6
        · rw [if_pos h6, if_neg h2, if_neg h3, decide_eq_true h6]
        · rw [if_neg h6, decide_eq_false h6]
      · rw [if_neg h0, if_neg h0]
/-- The number that the first e bytes from place i on make. -/
def lacc (x : ByteArray) : Nat → Int → Int → Int
  | 0, _, v => v
  | e + 1, i, v => lacc x e (i + 1) (Go.bits .or .u64 v (shl .u64 (IntKind.u64.wrap (bt x i)) (8 * i)))
theorem ints_eq (x : ByteArray) (hx : x.size ≤ 32) (k : Nat) (hk : 20 ≤ k) : ∃ v, value_Integer.f k 3 0 x 0 = some (v, 0) ∧ platformfwref08_Integer.f k 3 0 x 0 = some (v, 0) := by
  have hm : mn (x.size : Int) 8 = ((min x.size 8 : Nat) : Int) := by unfold mn; split <;> omega
  have l1 : ∀ (e : Nat) (j : Int) (q : Nat) (v : Int), 0 ≤ j → j + e = (min x.size 8 : Nat) → e < q → value_little.l0 q x v ((min x.size 8 : Nat) : Int) j = some (lacc x e j v) := by
    intro e
    induction e with
    | zero =>
      intro j q v h0 hj hq
      obtain ⟨q, rfl⟩ : ∃ m, q = m + 1 := ⟨q - 1, by omega⟩
      simp only [value_little.l0]; rw [if_neg (by omega)]; rfl
    | succ e ih =>
      intro j q v h0 hj hq
      obtain ⟨q, rfl⟩ : ∃ m, q = m + 1 := ⟨q - 1, by omega⟩
      simp only [value_little.l0, lacc]
      rw [if_pos (by omega), if_pos h0, if_pos (by omega), wrap64_id (a := 8 * j) (by omega) (by omega), if_pos (by omega), wrap64_id (a := j + 1) (by omega) (by omega)]
      exact ih (j + 1) q _ (by omega) (by omega) (by omega)
  have l2 : ∀ (e : Nat) (j : Int) (q : Nat) (v : Int), 0 ≤ j → j + e = (min x.size 8 : Nat) → e < q → platformfwref08_Integer.l1 q v j 3 0 x 0 = some (lacc x e j v, 0) := by
    intro e
    induction e with
    | zero =>
      intro j q v h0 hj hq
      obtain ⟨q, rfl⟩ : ∃ m, q = m + 1 := ⟨q - 1, by omega⟩
      simp only [platformfwref08_Integer.l1]
      by_cases h : j < x.size
      · rw [if_pos h, if_neg (by omega)]; rfl
      · rw [if_neg h]; rfl
    | succ e ih =>
      intro j q v h0 hj hq
      obtain ⟨q, rfl⟩ : ∃ m, q = m + 1 := ⟨q - 1, by omega⟩
      simp only [platformfwref08_Integer.l1, lacc]
      rw [if_pos (by omega), if_pos (by omega), if_pos h0, wrap64_id (a := 8 * j) (by omega) (by omega), wrap_u64_id (a := 8 * j) (by omega) (by omega), if_pos (by omega), wrap64_id (a := j + 1) (by omega) (by omega)]
      exact ih (j + 1) q _ (by omega) (by omega) (by omega)
  refine ⟨lacc x (min x.size 8) 0 0, ?_, ?_⟩
  · unfold value_Integer.f value_Valid.f value_little.f
    rw [if_neg (by omega), if_pos (by omega), Option.bind_some, if_pos (by simp; omega), if_neg (by omega), if_neg (by omega), if_pos (by omega), hm, l1 (min x.size 8) 0 k 0 (by omega) (by omega) (by omega), Option.bind_some]
  · unfold platformfwref08_Integer.f platformfwref08_Valid.f
    rw [if_pos (by omega), if_pos (by omega), if_neg (by omega), if_pos (by omega), Option.bind_some, if_pos (by simp; omega), if_neg (by omega), if_neg (by omega), if_pos (by omega), l2 (min x.size 8) 0 k 0 (by omega) (by omega) (by omega)]
theorem tovalue_loop {s b len bit n w u i d : Int} (hn : 1 ≤ n ∧ n ≤ 256) (x : ByteArray) (r : Option (Int × Int × ByteArray × Int)) (q0 : Nat) : ∀ (e : Nat) (j : Int) (q : Nat) (l : List Int), 0 ≤ j → j + e = n → q = q0 + e + 1 → (l.length : Int) = (n + 7) / 8 →
    platformfwref09_ToValue.l0 q x l j s b len bit n w u i d = (if n > 64 then some (3, 0, strOfNums (bloop (sbit x) e j l), 0) else ((platformfwref08_Integer.f q0 3 0 (strOfNums (bloop (sbit x) e j l)) 0).bind fun bt268 => ((platformfwref08_Number.f bt268.1).bind fun bt270 => (some (bt270.1, bt270.2.1, bt270.2.2.1, bt270.2.2.2))))) := by
  intro e
  induction e with
  | zero =>
    intro j q l h0 hj hq hl
    subst hq
    simp only [platformfwref09_ToValue.l0]; rw [if_neg (by omega)]; rfl
  | succ e ih =>
    intro j q l h0 hj hq hl
    subst hq
    have f1 : wrap64 (Int.tdiv j 8) = j / 8 := by rw [tdiv_pos h0]; exact wrap64_id (by omega) (by omega)
    have f2 : IntKind.u64.wrap (Int.tmod j 8) = j % 8 := by rw [tmod_pos h0]; exact wrap_u64_id (by omega) (by omega)
    have hn := ih (j + 1) (q0 + e + 1) (l.set (j / 8).toNat (Go.bits .or .u8 (rd l (j / 8)) (sbit x j * 2 ^ (j % 8).toNat))) (by omega) (by omega) rfl (by rw [List.length_set]; exact hl)
    generalize hq1 : q0 + e + 1 = q1 at hn
    simp only [platformfwref09_ToValue.l0]
    rw [if_pos (by omega), f1, f2, if_pos (by omega), if_pos (by omega), (bit_two x h0 (by omega)).2, Option.bind_some, if_pos (by omega), wrap64_id (a := j + 1) (by omega) (by omega), (put_two (sbit_two x j) (t := j % 8) (by omega) (by omega)).2]
    exact hn
theorem tovalue_both {s b len bit n w u i d : Int} (hb : 0 ≤ b) (hb2 : b < 18446744073709551616) (hl : 0 ≤ len) (hl2 : len < 18446744073709551616) (k : Nat) (hk : 1000 ≤ k) (x : ByteArray) :
    ∃ r, field_ToValue.f k s b len bit n w u i d x = some r ∧ platformfwref09_ToValue.f k s b len bit n w u i d x = some r := by
  unfold field_ToValue.f platformfwref09_ToValue.f
  rw [fieldValid_eq hb hb2 hl hl2 k (by omega), Option.bind_some, refValid_eq hb hb2 hl hl2 k (by omega), Option.bind_some]
  by_cases h : VF s b len bit n w u
  · have hn : 1 ≤ n ∧ n ≤ 256 := by unfold VF at h; omega
    have hz := norm_size x hn
    obtain ⟨q0, hq0⟩ : ∃ q0, k = q0 + n.toNat + 1 := ⟨k - n.toNat - 1, by omega⟩
    rw [decide_eq_true h, if_pos rfl, if_pos rfl, normal_eq hn x k (by omega), Option.bind_some, wrap64_id (a := n + 7) (by omega) (by omega), tdiv_pos (by omega), wrap64_id (a := (n + 7) / 8) (by omega) (by omega), if_pos (c := 0 ≤ (n + 7) / 8) (by omega), if_pos (c := ((n + 7) / 8).toNat ≤ 281474976710656) (by omega), tovalue_loop hn x none q0 n.toNat 0 k _ (by omega) (by omega) hq0 (by rw [List.length_replicate]; omega)]
    by_cases h64 : n ≤ 64
    · obtain ⟨v, h1, h2⟩ := ints_eq _ hz k (by omega)
      obtain ⟨v', h1', h2'⟩ := ints_eq _ hz q0 (by omega)
      have : v' = v := by
        have e := at_rounds (platformfwref08_Integer.mono _ _ _ _) (show q0 ≤ k by omega) h2'
        rw [h2] at e; injection e with e; injection e with e; exact e.symm
      subst this
      rw [if_pos h64, if_neg (by omega), h1, h2', Option.bind_some, Option.bind_some]
      exact ⟨_, rfl, rfl⟩
    · rw [if_neg h64, if_pos (by omega)]; exact ⟨_, rfl, rfl⟩
  · rw [decide_eq_false h, if_neg (by decide), if_neg (by decide)]; exact ⟨_, rfl, rfl⟩
theorem fromvalue_both {s b len bit n w u i d : Int} (hb : 0 ≤ b) (hb2 : b < 18446744073709551616) (hl : 0 ≤ len) (hl2 : len < 18446744073709551616) (k : Nat) (hk : 1000 ≤ k) (k0 a : Int) (x : ByteArray) (o : Int) :
    ∃ r, field_FromValue.f k s b len bit n w u i d k0 a x o = some r ∧ platformfwref09_FromValue.f k s b len bit n w u i d k0 a x o = some r := by
  obtain ⟨k, rfl⟩ : ∃ m, k = m + 2 := ⟨k - 2, by omega⟩
  have bad1 : field_FromValue.j0 (k + 2) true s b len bit n w u i d k0 a x o = some (⟨#[]⟩, 1) := by simp only [field_FromValue.j0]; rw [if_pos trivial]
  have bad2 : platformfwref09_FromValue.j0 (k + 2) true s b len bit n w u i d k0 a x o = some (⟨#[]⟩, 1) := by simp only [platformfwref09_FromValue.j0]; rw [if_pos trivial]
  have hv : ∃ v, platformfwref08_Valid.f k0 a x o = some v := by
    unfold platformfwref08_Valid.f
    repeat' split
    all_goals exact ⟨_, rfl⟩
  obtain ⟨v, hv⟩ := hv
  unfold field_FromValue.f platformfwref09_FromValue.f
  rw [valids, hv, Option.bind_some, Option.bind_some]
  cases v with
  | false => rw [if_neg (by decide), if_neg (by decide), bad1, bad2]; exact ⟨_, rfl, rfl⟩
  | true =>
    rw [if_pos rfl, if_pos rfl, fieldValid_eq hb hb2 hl hl2 (k + 2) (by omega), Option.bind_some, refValid_eq hb hb2 hl hl2 (k + 2) (by omega), Option.bind_some]
    by_cases h : VF s b len bit n w u
    · have hn : 1 ≤ n ∧ n ≤ 256 := by unfold VF at h; omega
      rw [decide_eq_true h]
      have fin : ∀ y : ByteArray, platformfwref09_FromValue.j1 (k + 1) y s b len bit n w u i d = some (strOfNums (bloop (sbit y) n.toNat 0 (List.replicate ((n + 7) / 8).toNat 0)), 0) := by
        intro y
        simp only [platformfwref09_FromValue.j1]
        rw [wrap64_id (a := n + 7) (by omega) (by omega), tdiv_pos (by omega), wrap64_id (a := (n + 7) / 8) (by omega) (by omega), if_pos (by omega), if_pos (by omega)]
        exact value_loop hn y n.toNat 0 k _ (by omega) (by omega) (by omega) (by rw [List.length_replicate]; omega)
      have hnt : ¬ ((!true) = true) := by decide
      simp only [field_FromValue.j0, platformfwref09_FromValue.j0]
      rw [if_neg hnt, if_neg hnt]
      by_cases k1 : k0 = 1
      · subst k1
        have hb1 : value_Buffer.f (k + 1) 1 a x o = some (strOfNums (bytes8 a), 0) := by
          unfold value_Buffer.f
          rw [valids, hv, Option.bind_some, if_pos rfl, if_pos rfl, eight_eq a (k + 1) (by omega), Option.bind_some, strOfNums_size', if_neg (by simp [bytes8])]
        have hb2' : platformfwref08_Buffer.f (k + 1) 1 a x o = some (strOfNums (bytes8 a), 0) := by
          unfold platformfwref08_Buffer.f
          rw [hv, Option.bind_some, if_pos rfl, if_neg (by omega), if_pos rfl, little8_eq a (k + 1) (by omega), Option.bind_some]
        rw [if_pos rfl, if_pos rfl, hb1, Option.bind_some, hb2', Option.bind_some, normal_eq hn _ (k + 1) (by omega), Option.bind_some, fin]
        exact ⟨_, rfl, rfl⟩
      · rw [if_neg k1, if_neg k1]
        by_cases k2 : k0 = 2
        · rw [if_pos k2, if_pos k2, normal_eq hn _ (k + 1) (by omega), Option.bind_some, fin]; exact ⟨_, rfl, rfl⟩
        · rw [if_neg k2, if_neg k2]
          by_cases k3 : k0 = 3
          · rw [if_pos k3, if_pos k3, normal_eq hn _ (k + 1) (by omega), Option.bind_some, fin]; exact ⟨_, rfl, rfl⟩
          · rw [if_neg k3, if_neg k3]; exact ⟨_, rfl, rfl⟩
    · rw [decide_eq_false h]
      show ∃ r, field_FromValue.j0 (k + 2) true s b len bit n w u i d k0 a x o = some r ∧ platformfwref09_FromValue.j0 (k + 2) true s b len bit n w u i d k0 a x o = some r
      rw [bad1, bad2]; exact ⟨_, rfl, rfl⟩
theorem FieldConverts : St.FieldConverts := by
  intro s b len bit n w u i d y k0 a x o _ hb hl _ _ _ _ _ _ _ _ _ _ _
  have hb' := wf_u64 hb
  have hl' := wf_u64 hl
  have loop : ∀ (e : Nat) (j k0 : Int) (x : ByteArray) (k : Nat), 0 ≤ j → j + e = 2 → 3000 + e ≤ k → platformfwlaw11_FieldConverts.l0 k y j s b len bit n w u i d k0 a x o = some true := by
    intro e
    induction e with
    | zero =>
      intro j k0 x k h0 hj hk
      obtain ⟨k, rfl⟩ : ∃ m, k = m + 1 := ⟨k - 1, by omega⟩
      simp only [platformfwlaw11_FieldConverts.l0]
      rw [if_neg (by omega), awake11_at k (by omega), Option.bind_some]
    | succ e ih =>
      intro j k0 x k h0 hj hk
      obtain ⟨k, rfl⟩ : ∃ m, k = m + 1 := ⟨k - 1, by omega⟩
      obtain ⟨s', b', len', bit', n', w', u', i', d', he, h1, h2, h3, h4⟩ := spec_ex (s := s) (bit := bit) (n := n) (w := w) (u := u) (i := i) (d := d) hb'.1 hb'.2 hl'.1 hl'.2 k (by omega)
      obtain ⟨r, hr1, hr2⟩ := fromvalue_both (s := s') (bit := bit') (n := n') (w := w') (u := u') (i := i') (d := d') h1 h2 h3 h4 k (by omega) k0 a x o
      obtain ⟨t, ht1, ht2⟩ := tovalue_both (s := s') (bit := bit') (n := n') (w := w') (u := u') (i := i') (d := d') h1 h2 h3 h4 k (by omega) y
      obtain ⟨m, hm, _⟩ := mod_ex k0 5 (by omega) (by omega)
      have hmn : 0 ≤ mn (x.size : Int) 255 ∧ mn (x.size : Int) 255 ≤ x.size := by unfold mn; split <;> omega
      simp only [platformfwlaw11_FieldConverts.l0]
      rw [if_pos (by omega), he, Option.bind_some]
      simp only
      rw [hr1, Option.bind_some, hr2, Option.bind_some, if_pos rfl, if_pos rfl, ht1, Option.bind_some, ht2, Option.bind_some, if_neg (by simp), hm, Option.bind_some, if_pos hmn.1, if_pos hmn.2, wrap64_id (by omega) (by omega)]
      exact ih (j + 1) m _ k (by omega) (by omega) (by omega)
  exact ⟨4000, loop 2 0 k0 x 4000 (by omega) (by omega) (by omega)⟩
end Go.Proofs.Ytmnmidclaaiffaa.Pure
