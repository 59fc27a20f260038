/- The plain law FieldMoves: both programs take out and put in alike. -/
import Derived.Test.YtmnmidclaaiffaaStFieldMoves
import Derived.Test.YtmnmidclaaiffaaBytes
import Derived.Test.YtmnmidclaaiffaaExt
namespace Go.Proofs.Ytmnmidclaaiffaa.Pure
open Go.RowKit Go.Proofs.Ytmnmidclaaiffaa.PFieldMoves Go.Proofs.YtmnmidclaaiffaaW.PrintWords Go.Proofs.YtmnmidclaaiffaaW.PrintLast Go.Proofs.YtmnmidclaaiffaaW.PrintMore Go.Proofs.Ytmnmidclaaiffaa.Plain
open Go.Proofs.Ytmnmidclaaiffaa.Ext
set_option linter.unusedVariables false
set_option linter.unusedSimpArgs false
/-! ### layer 11: which fields are valid, and the units of a field -/
/-- A valid field: space s, base b, length len, first bit, bits n, width w, update u. -/
def VF (s b len bit n w u : Int) : Prop :=
  (s = 0 ∨ s = 1 ∨ s = 3) ∧ 1 ≤ len ∧ len ≤ 1048576 ∧ b ≤ 18446744073709551615 - (len - 1) ∧ (s = 3 → b ≤ 255 ∧ b + len ≤ 256 ∧ w = 1) ∧ (w = 1 ∨ w = 2 ∨ w = 4 ∨ w = 8) ∧ b % w = 0 ∧ 0 ≤ u ∧ u ≤ 2 ∧ 0 ≤ bit ∧ bit < 8388608 ∧ 1 ≤ n ∧ n ≤ 256 ∧ ((bit + n - 1) / (8 * w) + 1) * w ≤ len
instance (s b len bit n w u : Int) : Decidable (VF s b len bit n w u) := by unfold VF; infer_instance
theorem tdiv_pos {a b : Int} (h : 0 ≤ a) : Int.tdiv a b = a / b := Int.tdiv_eq_ediv_of_nonneg h
theorem tmod_pos {a b : Int} (h : 0 ≤ a) : Int.tmod a b = a % b := Int.tmod_eq_emod_of_nonneg h
/-- The last test of both: the end of the last unit. -/
theorem end_eq {bit n w len : Int} (hw : w = 1 ∨ w = 2 ∨ w = 4 ∨ w = 8) (hb : 0 ≤ bit) (hb2 : bit ≤ 8388608) (hn : 1 ≤ n) (hn2 : n ≤ 256) :
    wrap64 (8 * w) = 8 * w ∧ (IntKind.u64.wrap (wrap64 ((wrap64 ((wrap64 (Int.tdiv (wrap64 ((wrap64 (bit + n)) - 1)) (wrap64 (8 * w)))) + 1)) * w))) = ((bit + n - 1) / (8 * w) + 1) * w := by
  have h8 : wrap64 (8 * w) = 8 * w := wrap64_id (by omega) (by omega)
  refine ⟨h8, ?_⟩
  rw [h8, wrap64_id (a := bit + n) (by omega) (by omega), wrap64_id (a := bit + n - 1) (by omega) (by omega), tdiv_pos (by omega)]
  rcases hw with rfl | rfl | rfl | rfl
  all_goals
    rw [wrap64_id (a := _ / _) (by omega) (by omega), wrap64_id (a := _ / _ + 1) (by omega) (by omega), wrap64_id (by omega) (by omega), wrap_u64_id (by omega) (by omega)]
theorem end_big {bit n w len : Int} (hw : w = 1 ∨ w = 2 ∨ w = 4 ∨ w = 8) (hb : bit = 8388608) (hn : 1 ≤ n) (hl : len ≤ 1048576) : ¬ ((bit + n - 1) / (8 * w) + 1) * w ≤ len := by
  rcases hw with rfl | rfl | rfl | rfl <;> omega
theorem validRegion_eq {s b len w : Int} (hb : 0 ≤ b) (hb2 : b < 18446744073709551616) (hl : 0 ≤ len) (hl2 : len < 18446744073709551616) (hw : w = 1 ∨ w = 2 ∨ w = 4 ∨ w = 8) (k : Nat) (hk : 3 ≤ k) :
    field_validRegion.f k s b len w = some (decide ((s = 0 ∨ s = 1 ∨ s = 3) ∧ 1 ≤ len ∧ len ≤ 1048576 ∧ b ≤ 18446744073709551615 - (len - 1) ∧ (s = 3 → b ≤ 255 ∧ b + len ≤ 256 ∧ w = 1) ∧ b % w = 0)) := by
  obtain ⟨k, rfl⟩ : ∃ m, k = m + 3 := ⟨k - 3, by omega⟩
  have hu : IntKind.u64.wrap w = w := wrap_u64_id (by omega) (by omega)
  unfold field_validRegion.f
  have bad : field_validRegion.j0 (k + 3) w true s b len = some false := by simp only [field_validRegion.j0]; rw [if_pos trivial]
  by_cases h1 : len < 1
  · rw [if_pos h1, bad]; congr 1; symm; rw [decide_eq_false_iff_not]; omega
  rw [if_neg h1]
  by_cases h2 : len > 1048576
  · rw [if_pos h2, bad]; congr 1; symm; rw [decide_eq_false_iff_not]; omega
  rw [if_neg h2, wrap_u64_id (a := len - 1) (by omega) (by omega), wrap_u64_id (a := 18446744073709551615 - b) (by omega) (by omega)]
  by_cases h3 : len - 1 > 18446744073709551615 - b
  · rw [if_pos h3, bad]; congr 1; symm; rw [decide_eq_false_iff_not]; omega
  rw [if_neg h3, hu, if_neg (by omega), tmod_pos hb]
  simp only [field_validRegion.j0]
  by_cases h4 : b % w = 0
  case neg =>
    rw [if_pos (by simpa using h4)]; congr 1; symm; rw [decide_eq_false_iff_not]; omega
  rw [if_neg (by simp [h4])]
  have fin : ∀ c : Bool, (c = true ↔ (s = 0 ∨ s = 1)) → field_validRegion.j1 (k + 2) w s c s b len = some (decide ((s = 0 ∨ s = 1 ∨ s = 3) ∧ 1 ≤ len ∧ len ≤ 1048576 ∧ b ≤ 18446744073709551615 - (len - 1) ∧ (s = 3 → b ≤ 255 ∧ b + len ≤ 256 ∧ w = 1) ∧ b % w = 0)) := by
    intro c hc
    simp only [field_validRegion.j1]
    by_cases h5 : s = 0 ∨ s = 1
    · rw [if_pos (hc.2 h5)]; congr 1; symm; rw [decide_eq_true_iff]; omega
    rw [if_neg (fun h => h5 (hc.1 h))]
    by_cases h6 : s = 3
    · rw [if_pos h6]
      by_cases h7 : w = 1
      · rw [if_pos h7]
        by_cases h8 : b < 256
        · rw [if_pos h8, wrap_u64_id (by omega) (by omega)]; congr 1; rw [decide_eq_decide]; omega
        · rw [if_neg h8]; congr 1; symm; rw [decide_eq_false_iff_not]; omega
      · rw [if_neg h7]; congr 1; symm; rw [decide_eq_false_iff_not]; omega
    · rw [if_neg h6]; congr 1; symm; rw [decide_eq_false_iff_not]; omega
  by_cases h5 : s = 0
  · rw [if_pos h5]; exact fin _ (by simp [h5])
  · rw [if_neg h5]; exact fin _ (by simp; omega)
theorem fieldValid_eq {s b len bit n w u i d : Int} (hb : 0 ≤ b) (hb2 : b < 18446744073709551616) (hl : 0 ≤ len) (hl2 : len < 18446744073709551616) (k : Nat) (hk : 6 ≤ k) :
    field_Valid.f k s b len bit n w u i d = some (decide (VF s b len bit n w u)) := by
  obtain ⟨k, rfl⟩ : ∃ m, k = m + 6 := ⟨k - 6, by omega⟩
  have key : (w = 1 ∨ w = 2 ∨ w = 4 ∨ w = 8) → field_Valid.j0 (k + 6) s b len bit n w u i d = some (decide (VF s b len bit n w u)) := by
    intro hw
    have bad : ¬ VF s b len bit n w u → field_Valid.j1 (k + 5) true s b len bit n w u i d = some (decide (VF s b len bit n w u)) := by
      intro h; simp only [field_Valid.j1]; rw [if_pos trivial]; congr 1; symm; rw [decide_eq_false_iff_not]; exact h
    simp only [field_Valid.j0]
    rw [validRegion_eq hb hb2 hl hl2 hw (k + 5) (by omega), Option.bind_some]
    by_cases h1 : ((s = 0 ∨ s = 1 ∨ s = 3) ∧ 1 ≤ len ∧ len ≤ 1048576 ∧ b ≤ 18446744073709551615 - (len - 1) ∧ (s = 3 → b ≤ 255 ∧ b + len ≤ 256 ∧ w = 1) ∧ b % w = 0)
    case neg => rw [if_neg (by rw [decide_eq_true_iff]; exact h1)]; exact bad (fun h => h1 (by unfold VF at h; exact ⟨h.1, h.2.1, h.2.2.1, h.2.2.2.1, h.2.2.2.2.1, h.2.2.2.2.2.2.1⟩))
    rw [if_pos (by rw [decide_eq_true_iff]; exact h1)]
    by_cases h2 : u < 0
    · rw [if_pos h2]; exact bad (fun h => by unfold VF at h; omega)
    rw [if_neg h2]
    by_cases h3 : u > 2
    · rw [if_pos h3]; exact bad (fun h => by unfold VF at h; omega)
    rw [if_neg h3]
    by_cases h4 : n < 1
    · rw [if_pos h4]; exact bad (fun h => by unfold VF at h; omega)
    rw [if_neg h4]
    by_cases h5 : n > 256
    · rw [decide_eq_true h5]; exact bad (fun h => by unfold VF at h; omega)
    rw [decide_eq_false h5]
    simp only [field_Valid.j1]
    rw [if_neg (by decide)]
    by_cases h6 : bit < 0
    · rw [if_pos h6]; congr 1; symm; rw [decide_eq_false_iff_not]; intro h; unfold VF at h; omega
    rw [if_neg h6]
    by_cases h7 : bit ≥ 8388608
    · rw [if_pos h7]; congr 1; symm; rw [decide_eq_false_iff_not]; intro h; unfold VF at h; omega
    rw [if_neg h7]
    obtain ⟨e1, e2⟩ := end_eq (len := len) hw (bit := bit) (n := n) (by omega) (by omega) (by omega) (by omega)
    rw [e2, e1, if_neg (by omega)]
    congr 1; rw [decide_eq_decide]; unfold VF
    constructor
    · intro h; exact ⟨h1.1, h1.2.1, h1.2.2.1, h1.2.2.2.1, h1.2.2.2.2.1, hw, h1.2.2.2.2.2, by omega, by omega, by omega, by omega, by omega, by omega, h⟩
    · intro h; exact h.2.2.2.2.2.2.2.2.2.2.2.2.2
  unfold field_Valid.f
  by_cases w1 : w = 1
  · rw [if_pos w1]; exact key (by omega)
  rw [if_neg w1]
  by_cases w2 : w = 2
  · rw [if_pos w2]; exact key (by omega)
  rw [if_neg w2]
  by_cases w4 : w = 4
  · rw [if_pos w4]; exact key (by omega)
  rw [if_neg w4]
  by_cases w8 : w = 8
  · rw [if_pos w8]; exact key (by omega)
  rw [if_neg w8]
  congr 1; symm; rw [decide_eq_false_iff_not]; intro h; unfold VF at h; omega
theorem refValid_eq {s b len bit n w u i d : Int} (hb : 0 ≤ b) (hb2 : b < 18446744073709551616) (hl : 0 ≤ len) (hl2 : len < 18446744073709551616) (k : Nat) (hk : 6 ≤ k) :
    platformfwref09_ValidField.f k s b len bit n w u i d = some (decide (VF s b len bit n w u)) := by
  obtain ⟨k, rfl⟩ : ∃ m, k = m + 6 := ⟨k - 6, by omega⟩
  have no : ¬ VF s b len bit n w u → some false = some (decide (VF s b len bit n w u)) := fun h => by congr 1; symm; rw [decide_eq_false_iff_not]; exact h
  have bad0 : ¬ VF s b len bit n w u → platformfwref09_ValidField.j0 (k + 6) true s b len bit n w u i d s b len = some (decide (VF s b len bit n w u)) := by
    intro h; simp only [platformfwref09_ValidField.j0]; rw [if_pos trivial]; exact no h
  have bad1 : ¬ VF s b len bit n w u → platformfwref09_ValidField.j1 (k + 5) true s b len bit n w u i d s b len = some (decide (VF s b len bit n w u)) := by
    intro h; simp only [platformfwref09_ValidField.j1]; rw [if_pos trivial]; exact no h
  have bad2 : ¬ VF s b len bit n w u → platformfwref09_ValidField.j2 (k + 4) true s b len bit n w u i d s b len = some (decide (VF s b len bit n w u)) := by
    intro h; simp only [platformfwref09_ValidField.j2]; rw [if_pos trivial]; exact no h
  have key2 : (s = 0 ∨ s = 1 ∨ s = 3) → 1 ≤ len → len ≤ 1048576 → b ≤ 18446744073709551615 - (len - 1) → (s = 3 → b ≤ 255 ∧ b + len ≤ 256 ∧ w = 1) → (w = 1 ∨ w = 2 ∨ w = 4 ∨ w = 8) → b % w = 0 → 0 ≤ u →
      platformfwref09_ValidField.j2 (k + 4) (decide (u > 2)) s b len bit n w u i d s b len = some (decide (VF s b len bit n w u)) := by
    intro a1 a2 a3 a4 a5 hw a7 a8
    by_cases h1 : u > 2
    · rw [decide_eq_true h1]; exact bad2 (fun h => by unfold VF at h; omega)
    rw [decide_eq_false h1]
    simp only [platformfwref09_ValidField.j2]
    rw [if_neg (by decide)]
    by_cases h2 : bit < 0
    · rw [if_pos h2]; exact no (fun h => by unfold VF at h; omega)
    rw [if_neg h2]
    by_cases h3 : bit > 8388608
    · rw [if_pos h3]; exact no (fun h => by unfold VF at h; omega)
    rw [if_neg h3]
    by_cases h4 : n < 1
    · rw [if_pos h4]; exact no (fun h => by unfold VF at h; omega)
    rw [if_neg h4]
    by_cases h5 : n > 256
    · rw [if_pos h5]; exact no (fun h => by unfold VF at h; omega)
    rw [if_neg h5]
    obtain ⟨e1, e2⟩ := end_eq (len := len) hw (bit := bit) (n := n) (by omega) (by omega) (by omega) (by omega)
    rw [e2, e1, if_neg (by omega)]
    congr 1; rw [decide_eq_decide]; unfold VF
    constructor
    · intro h
      have : bit ≠ 8388608 := fun hb => end_big hw hb (n := n) (by omega) a3 h
      exact ⟨a1, a2, a3, a4, a5, hw, a7, a8, by omega, by omega, by omega, by omega, by omega, h⟩
    · intro h; exact h.2.2.2.2.2.2.2.2.2.2.2.2.2
  have key1 : (s = 0 ∨ s = 1 ∨ s = 3) → 1 ≤ len → len ≤ 1048576 → b ≤ 18446744073709551615 - (len - 1) → (s = 3 → b ≤ 255 ∧ b + len ≤ 256 ∧ w = 1) →
      platformfwref09_ValidField.j1 (k + 5) false s b len bit n w u i d s b len = some (decide (VF s b len bit n w u)) := by
    intro a1 a2 a3 a4 a5
    have each : (w = 1 ∨ w = 2 ∨ w = 4 ∨ w = 8) → (if (IntKind.u64.wrap (w)) = 0 then (none) else (if (Int.tmod b (IntKind.u64.wrap (w))) = 0 then (if u < 0 then (platformfwref09_ValidField.j2 (k + 4) true s b len bit n w u i d s b len) else (platformfwref09_ValidField.j2 (k + 4) (decide (u > 2)) s b len bit n w u i d s b len)) else (platformfwref09_ValidField.j2 (k + 4) true s b len bit n w u i d s b len))) = some (decide (VF s b len bit n w u)) := by
      intro hw
      rw [wrap_u64_id (a := w) (by omega) (by omega), if_neg (by omega), tmod_pos hb]
      by_cases h1 : b % w = 0
      · rw [if_pos h1]
        by_cases h2 : u < 0
        · rw [if_pos h2]; exact bad2 (fun h => by unfold VF at h; omega)
        · rw [if_neg h2]; exact key2 a1 a2 a3 a4 a5 hw h1 (by omega)
      · rw [if_neg h1]; exact bad2 (fun h => by unfold VF at h; exact h1 h.2.2.2.2.2.2.1)
    simp only [platformfwref09_ValidField.j1]
    rw [if_neg (by decide)]
    by_cases w1 : w = 1
    · rw [if_pos w1]; exact each (by omega)
    rw [if_neg w1]
    by_cases w2 : w = 2
    · rw [if_pos w2]; exact each (by omega)
    rw [if_neg w2]
    by_cases w4 : w = 4
    · rw [if_pos w4]; exact each (by omega)
    rw [if_neg w4]
    by_cases w8 : w = 8
    · rw [if_pos w8]; exact each (by omega)
    rw [if_neg w8]; exact bad2 (fun h => by unfold VF at h; omega)
  have key0 : (s = 0 ∨ s = 1 ∨ s = 3) → (if len < 1 then (platformfwref09_ValidField.j0 (k + 6) true s b len bit n w u i d s b len) else (if len > 1048576 then (platformfwref09_ValidField.j0 (k + 6) true s b len bit n w u i d s b len) else (platformfwref09_ValidField.j0 (k + 6) (decide (b > (IntKind.u64.wrap (18446744073709551615 - (IntKind.u64.wrap (len - 1)))))) s b len bit n w u i d s b len))) = some (decide (VF s b len bit n w u)) := by
    intro a1
    by_cases h1 : len < 1
    · rw [if_pos h1]; exact bad0 (fun h => by unfold VF at h; omega)
    rw [if_neg h1]
    by_cases h2 : len > 1048576
    · rw [if_pos h2]; exact bad0 (fun h => by unfold VF at h; omega)
    rw [if_neg h2, wrap_u64_id (a := len - 1) (by omega) (by omega), wrap_u64_id (a := 18446744073709551615 - (len - 1)) (by omega) (by omega)]
    by_cases h3 : b > 18446744073709551615 - (len - 1)
    · rw [decide_eq_true h3]; exact bad0 (fun h => by unfold VF at h; omega)
    rw [decide_eq_false h3]
    simp only [platformfwref09_ValidField.j0]
    rw [if_neg (by decide)]
    by_cases h4 : s = 3
    · rw [if_pos h4]
      by_cases h5 : b > 255
      · rw [if_pos h5]; exact bad1 (fun h => by unfold VF at h; omega)
      rw [if_neg h5, wrap_u64_id (a := b + len) (by omega) (by omega)]
      by_cases h6 : b + len > 256
      · rw [if_pos h6]; exact bad1 (fun h => by unfold VF at h; omega)
      rw [if_neg h6]
      by_cases h7 : w = 1
      · rw [show (w != 1) = false by simp [h7]]; exact key1 a1 (by omega) (by omega) (by omega) (by omega)
      · rw [show (w != 1) = true by simp [h7]]; exact bad1 (fun h => by unfold VF at h; omega)
    · rw [if_neg h4]; exact key1 a1 (by omega) (by omega) (by omega) (by omega)
  unfold platformfwref09_ValidField.f
  by_cases s0 : s = 0
  · rw [if_pos s0]; exact key0 (by omega)
  rw [if_neg s0]
  by_cases s1 : s = 1
  · rw [if_pos s1]; exact key0 (by omega)
  rw [if_neg s1]
  by_cases s3 : s = 3
  · rw [if_pos s3]; exact key0 (by omega)
  rw [if_neg s3]; exact bad0 (fun h => by unfold VF at h; omega)
/-- The first unit and the number of units. -/
def fstU (bit w : Int) : Int := bit / (8 * w)
def numU (bit n w : Int) : Int := (bit + n - 1) / (8 * w) - bit / (8 * w) + 1
theorem numU_bd {s b len bit n w u : Int} (h : VF s b len bit n w u) : 1 ≤ numU bit n w ∧ numU bit n w ≤ 257 ∧ 0 ≤ fstU bit w ∧ fstU bit w < 1048577 := by
  unfold VF at h; unfold numU fstU
  rcases h.2.2.2.2.2.1 with rfl | rfl | rfl | rfl <;> omega
theorem units_raw {s b len bit n w u : Int} (h : VF s b len bit n w u) : wrap64 (8 * w) = 8 * w ∧ 8 * w ≠ 0 ∧ wrap64 (Int.tdiv bit (wrap64 (8 * w))) = fstU bit w ∧ wrap64 ((wrap64 ((wrap64 (Int.tdiv (wrap64 ((wrap64 (bit + n)) - 1)) (wrap64 (8 * w)))) - (wrap64 (Int.tdiv bit (wrap64 (8 * w)))))) + 1) = numU bit n w := by
  unfold VF at h; unfold numU fstU
  have h8 : wrap64 (8 * w) = 8 * w := wrap64_id (by omega) (by omega)
  refine ⟨h8, by omega, ?_, ?_⟩
  · rw [h8, tdiv_pos (by omega)]
    rcases h.2.2.2.2.2.1 with rfl | rfl | rfl | rfl <;> exact wrap64_id (by omega) (by omega)
  · rw [h8, wrap64_id (a := bit + n) (by omega) (by omega), wrap64_id (a := bit + n - 1) (by omega) (by omega), tdiv_pos (by omega), tdiv_pos (by omega)]
    rcases h.2.2.2.2.2.1 with rfl | rfl | rfl | rfl
    all_goals
      rw [wrap64_id (a := (bit + n - 1) / _) (by omega) (by omega), wrap64_id (a := bit / _) (by omega) (by omega), wrap64_id (a := _ / _ - _ / _) (by omega) (by omega), wrap64_id (by omega) (by omega)]
theorem fieldUnits_eq {s b len bit n w u i d : Int} (hb : 0 ≤ b) (hb2 : b < 18446744073709551616) (hl : 0 ≤ len) (hl2 : len < 18446744073709551616) (k : Nat) (hk : 6 ≤ k) :
    field_Units.f k s b len bit n w u i d = some (if VF s b len bit n w u then (fstU bit w, numU bit n w) else (0, 0)) := by
  unfold field_Units.f
  rw [fieldValid_eq hb hb2 hl hl2 k hk, Option.bind_some]
  by_cases h : VF s b len bit n w u
  · obtain ⟨e1, e2, e3, e4⟩ := units_raw h
    rw [decide_eq_true h, if_pos rfl, if_pos h, e4, e3, e1, if_neg e2]
  · rw [decide_eq_false h, if_neg (by decide), if_neg h]
theorem refUnits_eq {s b len bit n w u i d : Int} (hb : 0 ≤ b) (hb2 : b < 18446744073709551616) (hl : 0 ≤ len) (hl2 : len < 18446744073709551616) (k : Nat) (hk : 6 ≤ k) :
    platformfwref09_Units.f k s b len bit n w u i d = some (if VF s b len bit n w u then (fstU bit w, numU bit n w) else (0, 0)) := by
  unfold platformfwref09_Units.f
  rw [refValid_eq hb hb2 hl hl2 k hk, Option.bind_some]
  by_cases h : VF s b len bit n w u
  · obtain ⟨e1, e2, e3, e4⟩ := units_raw h
    rw [decide_eq_true h, if_pos rfl, if_pos h, e4, e3, e1, if_neg e2]
  · rw [decide_eq_false h, if_neg (by decide), if_neg h]
/-! ### layer 11: where a field's bits lie; loops that put bits into units -/
def uOf (bit w k : Int) : Int := (bit + k) / (8 * w) - bit / (8 * w)
def pOf (bit w k : Int) : Int := (bit + k) % (8 * w)
theorem uOf_bd {s b len bit n w u : Int} (h : VF s b len bit n w u) {k : Int} (h0 : 0 ≤ k) (h1 : k < n) : 0 ≤ uOf bit w k ∧ uOf bit w k < numU bit n w ∧ 0 ≤ pOf bit w k ∧ pOf bit w k < 8 * w ∧ 8 * w ≤ 64 := by
  unfold VF at h; unfold uOf pOf numU
  rcases h.2.2.2.2.2.1 with rfl | rfl | rfl | rfl <;> omega
theorem pos_raw {s b len bit n w u : Int} (h : VF s b len bit n w u) {k : Int} (h0 : 0 ≤ k) (h1 : k < n) : wrap64 (8 * w) = 8 * w ∧ ¬ 8 * w = 0 ∧ wrap64 (bit + k) = bit + k ∧ wrap64 (Int.tdiv (bit + k) (8 * w)) = (bit + k) / (8 * w) ∧ Int.tmod (bit + k) (8 * w) = pOf bit w k ∧ wrap64 (Int.tdiv bit (8 * w)) = fstU bit w ∧ wrap64 ((bit + k) / (8 * w) - fstU bit w) = uOf bit w k := by
  have hb := uOf_bd h h0 h1
  have hn := numU_bd h
  unfold VF at h; unfold uOf pOf numU fstU at *
  refine ⟨wrap64_id (by omega) (by omega), by omega, wrap64_id (by omega) (by omega), ?_, tmod_pos (by omega), ?_, wrap64_id (by omega) (by omega)⟩
  · rw [tdiv_pos (by omega)]
    rcases h.2.2.2.2.2.1 with rfl | rfl | rfl | rfl <;> exact wrap64_id (by omega) (by omega)
  · rw [tdiv_pos (by omega)]
    rcases h.2.2.2.2.2.1 with rfl | rfl | rfl | rfl <;> exact wrap64_id (by omega) (by omega)
theorem pos_eq {s b len bit n w u i d : Int} (h : VF s b len bit n w u) {k : Int} (h0 : 0 ≤ k) (h1 : k < n) : field_position.f s b len bit n w u i d k = some (uOf bit w k, pOf bit w k) := by
  obtain ⟨e1, e2, e3, e4, e5, e6, e7⟩ := pos_raw h h0 h1
  unfold field_position.f
  rw [e1, if_neg e2, e3, e4, e5, e6, e7]
/-- Bit after bit goes into its unit: d bits from bit k on; v tells them. -/
def gloop (bit w : Int) (v : Int → Int) : Nat → Int → List Int → List Int
  | 0, _, l => l
  | d + 1, k, l => gloop bit w v d (k + 1) (l.set (uOf bit w k).toNat (Go.bits .or .u64 (rd l (uOf bit w k)) (shl .u64 (v k) (pOf bit w k))))
theorem gloop_length (bit w : Int) (v : Int → Int) : ∀ (d : Nat) (k : Int) (l : List Int), (gloop bit w v d k l).length = l.length
  | 0, _, _ => rfl
  | d + 1, k, l => by rw [gloop, gloop_length bit w v d, List.length_set]
theorem fieldMasks_loop {s b len bit n w u i d : Int} (h : VF s b len bit n w u) : ∀ (e : Nat) (k : Int) (q : Nat) (l : List Int), 0 ≤ k → k + e = n → e < q → (l.length : Int) = numU bit n w →
    field_Masks.l0 q l n k s b len bit n w u i d = some (gloop bit w (fun _ => 1) e k l) := by
  intro e
  induction e with
  | zero =>
    intro k q l h0 hk hq hl
    obtain ⟨q, rfl⟩ : ∃ m, q = m + 1 := ⟨q - 1, by omega⟩
    simp only [field_Masks.l0]; rw [if_neg (by omega)]; rfl
  | succ e ih =>
    intro k q l h0 hk hq hl
    obtain ⟨q, rfl⟩ : ∃ m, q = m + 1 := ⟨q - 1, by omega⟩
    have hb := uOf_bd h h0 (show k < n by omega)
    have hn : n ≤ 256 := by unfold VF at h; omega
    simp only [field_Masks.l0]
    rw [if_pos (by omega), pos_eq h h0 (by omega), Option.bind_some, if_pos hb.1, if_pos (by omega), if_pos hb.2.2.1, wrap64_id (a := k + 1) (by omega) (by omega)]
    exact ih (k + 1) q _ (by omega) (by omega) (by omega) (by rw [List.length_set]; exact hl)
theorem refMasks_loop {s b len bit n w u i d : Int} (h : VF s b len bit n w u) : ∀ (e : Nat) (k : Int) (q : Nat) (l : List Int), 0 ≤ k → k + e = n → e < q → (l.length : Int) = numU bit n w →
    platformfwref09_Masks.l0 q (fstU bit w) l k s b len bit n w u i d = some (gloop bit w (fun _ => 1) e k l) := by
  intro e
  induction e with
  | zero =>
    intro k q l h0 hk hq hl
    obtain ⟨q, rfl⟩ : ∃ m, q = m + 1 := ⟨q - 1, by omega⟩
    simp only [platformfwref09_Masks.l0]; rw [if_neg (by omega)]; rfl
  | succ e ih =>
    intro k q l h0 hk hq hl
    obtain ⟨q, rfl⟩ : ∃ m, q = m + 1 := ⟨q - 1, by omega⟩
    have hb := uOf_bd h h0 (show k < n by omega)
    have hn : n ≤ 256 := by unfold VF at h; omega
    obtain ⟨e1, e2, e3, e4, e5, e6, e7⟩ := pos_raw h h0 (show k < n by omega)
    simp only [platformfwref09_Masks.l0]
    rw [if_pos (by omega), e1, if_neg e2, e3, e4, e5, e7, if_pos hb.1, if_pos (by omega), wrap_u64_id (a := pOf bit w k) (by omega) (by omega), if_pos hb.2.2.1, wrap64_id (a := k + 1) (by omega) (by omega)]
    exact ih (k + 1) q _ (by omega) (by omega) (by omega) (by rw [List.length_set]; exact hl)
/-- The masks of a field. -/
def masksOf (s b len bit n w u : Int) : List Int := if VF s b len bit n w u then gloop bit w (fun _ => 1) n.toNat 0 (List.replicate (numU bit n w).toNat 0) else []
theorem masksOf_length {s b len bit n w u : Int} (h : VF s b len bit n w u) : ((masksOf s b len bit n w u).length : Int) = numU bit n w := by
  have := numU_bd h
  unfold masksOf; rw [if_pos h, gloop_length, List.length_replicate]; omega
theorem fieldMasks_eq {s b len bit n w u i d : Int} (hb : 0 ≤ b) (hb2 : b < 18446744073709551616) (hl : 0 ≤ len) (hl2 : len < 18446744073709551616) (k : Nat) (hk : 300 ≤ k) :
    field_Masks.f k s b len bit n w u i d = some (masksOf s b len bit n w u) := by
  unfold field_Masks.f masksOf
  rw [fieldUnits_eq hb hb2 hl hl2 k (by omega), Option.bind_some]
  by_cases h : VF s b len bit n w u
  · have hn := numU_bd h
    have hn2 : 1 ≤ n ∧ n ≤ 256 := by unfold VF at h; omega
    rw [if_pos h, if_pos h]
    simp only
    rw [if_pos (by omega), if_pos (by omega), Option.bind_some, if_pos (by omega)]
    exact fieldMasks_loop h n.toNat 0 k _ (by omega) (by omega) (by omega) (by rw [List.length_replicate]; omega)
  · rw [if_neg h, if_neg h]; rfl
theorem refMasks_eq {s b len bit n w u i d : Int} (hb : 0 ≤ b) (hb2 : b < 18446744073709551616) (hl : 0 ≤ len) (hl2 : len < 18446744073709551616) (k : Nat) (hk : 300 ≤ k) :
    platformfwref09_Masks.f k s b len bit n w u i d = some (masksOf s b len bit n w u) := by
  unfold platformfwref09_Masks.f masksOf
  rw [refUnits_eq hb hb2 hl hl2 k (by omega), Option.bind_some]
  by_cases h : VF s b len bit n w u
  · have hn := numU_bd h
    have hn2 : 1 ≤ n ∧ n ≤ 256 := by unfold VF at h; omega
    rw [if_pos h, if_pos h]
    simp only
    rw [if_pos (by omega), if_pos (by omega), Option.bind_some, if_pos (by omega)]
    exact refMasks_loop h n.toNat 0 k _ (by omega) (by omega) (by omega) (by rw [List.length_replicate]; omega)
  · rw [if_neg h, if_neg h]; rfl
theorem equal_u64 (l : List Int) (hl : l.length ≤ 1000000) (k : Nat) (hk : l.length < k) : platformfwhelp_Equal_uint64.f k l l = some true := by
  have loop : ∀ (e : Nat) (i q : Nat), i + e = l.length → e < q → platformfwhelp_Equal_uint64.l0 q l l i = some true := by
    intro e
    induction e with
    | zero =>
      intro i q hi hq
      obtain ⟨q, rfl⟩ : ∃ m, q = m + 1 := ⟨q - 1, by omega⟩
      simp only [platformfwhelp_Equal_uint64.l0]; rw [if_neg (by omega)]
    | succ e ih =>
      intro i q hi hq
      obtain ⟨q, rfl⟩ : ∃ m, q = m + 1 := ⟨q - 1, by omega⟩
      simp only [platformfwhelp_Equal_uint64.l0]
      rw [if_pos (by omega), if_pos (by omega), if_pos (by omega), if_pos trivial, wrap64_id (by omega) (by omega)]
      exact ih (i + 1) q (by omega) (by omega)
  unfold platformfwhelp_Equal_uint64.f
  rw [if_pos rfl]; exact loop l.length 0 k (by omega) hk
/-! ### layer 11: the field that is made out of an arbitrary one -/
theorem mod_ex (a n : Int) (h0 : 0 < n) (h1 : n < 9223372036854775808) : ∃ r, platformfwhelp_Mod.f a n = some r ∧ 0 ≤ r ∧ r < n := by
  unfold platformfwhelp_Mod.f
  have hu : IntKind.u64.wrap n = n := wrap_u64_id (by omega) (by omega)
  have ha : 0 ≤ IntKind.u64.wrap a := by rw [wrap_u64]; omega
  rw [hu, if_neg (by omega), tmod_pos ha]
  have h2 := Int.emod_nonneg (IntKind.u64.wrap a) (show n ≠ 0 by omega)
  have h3 := Int.emod_lt_of_pos (IntKind.u64.wrap a) h0
  rw [wrap64_id (by omega) (by omega)]
  exact ⟨_, rfl, h2, h3⟩
theorem wrap_u64_rng (x : Int) : 0 ≤ IntKind.u64.wrap x ∧ IntKind.u64.wrap x < 18446744073709551616 := by rw [wrap_u64]; omega
theorem spec_ex {s b len bit n w u i d : Int} (hb : 0 ≤ b) (hb2 : b < 18446744073709551616) (hl : 0 ≤ len) (hl2 : len < 18446744073709551616) (k : Nat) (hk : 1 ≤ k) :
    ∃ s' b' len' bit' n' w' u' i' d' : Int, platformfwlaw11_spec.f k s b len bit n w u i d = some (s', b', len', bit', n', w', u', i', d') ∧ 0 ≤ b' ∧ b' < 18446744073709551616 ∧ 0 ≤ len' ∧ len' < 18446744073709551616 := by
  obtain ⟨k, rfl⟩ : ∃ m, k = m + 1 := ⟨k - 1, by omega⟩
  obtain ⟨r1, e1, _, _⟩ := mod_ex i 8 (by omega) (by omega)
  obtain ⟨r2, e2, h2, h2'⟩ := mod_ex w 4 (by omega) (by omega)
  obtain ⟨r3, e3, h3, h3'⟩ := mod_ex s 4 (by omega) (by omega)
  obtain ⟨r4, e4, h4, h4'⟩ := mod_ex bit 400 (by omega) (by omega)
  obtain ⟨r5, e5, h5, h5'⟩ := mod_ex n 100 (by omega) (by omega)
  obtain ⟨r6, e6, h6, h6'⟩ := mod_ex u 3 (by omega) (by omega)
  obtain ⟨r7, e7, h7, h7'⟩ := mod_ex n 9 (by omega) (by omega)
  obtain ⟨r8, e8, h8, h8'⟩ := mod_ex bit 3 (by omega) (by omega)
  have j0 : ∀ x4 y0 y1 y2 y3 y4 y5 y6 y7 y8 : Int, 0 ≤ y1 → y1 < 18446744073709551616 → 0 ≤ y2 → y2 < 18446744073709551616 → ∃ s' b' len' bit' n' w' u' i' d' : Int, platformfwlaw11_spec.j0 (k + 1) x4 s b len bit n w u i d y0 y1 y2 y3 y4 y5 y6 y7 y8 = some (s', b', len', bit', n', w', u', i', d') ∧ 0 ≤ b' ∧ b' < 18446744073709551616 ∧ 0 ≤ len' ∧ len' < 18446744073709551616 := by
    intro x4 y0 y1 y2 y3 y4 y5 y6 y7 y8 a1 a2 a3 a4
    simp only [platformfwlaw11_spec.j0]
    rw [e1]
    simp only [Option.bind_some]
    split <;> split <;> exact ⟨_, _, _, _, _, _, _, _, _, rfl, by omega, by omega, by omega, by omega⟩
  unfold platformfwlaw11_spec.f
  rw [e1]
  simp only [Option.bind_some]
  by_cases c1 : r1 = 7
  · rw [if_pos c1]; exact ⟨_, _, _, _, _, _, _, _, _, rfl, hb, hb2, hl, hl2⟩
  rw [if_neg c1, e2]
  simp only [Option.bind_some]
  rw [if_pos (wrap_u64_rng r2).1, e3]
  simp only [Option.bind_some]
  rw [if_pos h3, if_pos (by simpa using h3'), e4]
  simp only [Option.bind_some]
  rw [e5]
  simp only [Option.bind_some]
  rw [e6]
  simp only [Option.bind_some]
  rw [e7]
  simp only [Option.bind_some]
  by_cases c2 : r7 = 8
  · rw [if_pos c2, e8]
    simp only [Option.bind_some]
    exact j0 _ _ _ _ _ _ _ _ _ _ (wrap_u64_rng _).1 (wrap_u64_rng _).2 (wrap_u64_rng _).1 (wrap_u64_rng _).2
  · rw [if_neg c2]
    exact j0 _ _ _ _ _ _ _ _ _ _ (wrap_u64_rng _).1 (wrap_u64_rng _).2 (wrap_u64_rng _).1 (wrap_u64_rng _).2
theorem awake11 : platformfwlaw11_awake.f 20 = some true := by decide +kernel
theorem awake11_at (k : Nat) (hk : 20 ≤ k) : platformfwlaw11_awake.f k = some true := at_rounds platformfwlaw11_awake.mono hk awake11
/-! ### layer 11: taking a field's bits out of the units, and putting them in -/
/-- The bit of the units x at k. -/
def xbit (bit w : Int) (x : List Int) (k : Int) : Int := Go.bits .and .u64 (shr .u64 (rd x (uOf bit w k)) (pOf bit w k)) 1
theorem and_one (x : Int) : Go.bits .and .u64 x 1 = 0 ∨ Go.bits .and .u64 x 1 = 1 := by
  unfold Go.bits
  simp only [IntKind.bits]
  have h : ∀ b : BitVec 64, b &&& BitVec.ofInt 64 1 = 0#64 ∨ b &&& BitVec.ofInt 64 1 = 1#64 := by
    intro b
    rw [show BitVec.ofInt 64 1 = 1#64 by decide]
    rcases Nat.mod_two_eq_zero_or_one b.toNat with h | h
    · left; apply BitVec.eq_of_toNat_eq; rw [BitVec.toNat_and]; show b.toNat &&& 1 = 0; rw [Nat.and_one_is_mod, h]
    · right; apply BitVec.eq_of_toNat_eq; rw [BitVec.toNat_and]; show b.toNat &&& 1 = 1; rw [Nat.and_one_is_mod, h]
  rcases h (BitVec.ofInt 64 x) with h | h
  · left; exact (congrArg (fun b : BitVec 64 => IntKind.u64.wrap (b.toNat : Int)) h).trans (by decide)
  · right; exact (congrArg (fun b : BitVec 64 => IntKind.u64.wrap (b.toNat : Int)) h).trans (by decide)
theorem xbit_two (bit w : Int) (x : List Int) (k : Int) : xbit bit w x k = 0 ∨ xbit bit w x k = 1 := and_one _
theorem put_two {v t : Int} (hv : v = 0 ∨ v = 1) (h0 : 0 ≤ t) (h1 : t < 8) : shl .u8 (v % 256) t = v * 2 ^ t.toNat ∧ shl .u64 v t % 256 = v * 2 ^ t.toNat := by
  have h : t = 0 ∨ t = 1 ∨ t = 2 ∨ t = 3 ∨ t = 4 ∨ t = 5 ∨ t = 6 ∨ t = 7 := by omega
  rcases hv with rfl | rfl <;> rcases h with rfl | rfl | rfl | rfl | rfl | rfl | rfl | rfl <;> decide
/-- Bit after bit goes from the units x into the bytes l. -/
def eloop (bit w : Int) (x : List Int) : Nat → Int → List Int → List Int
  | 0, _, l => l
  | d + 1, k, l => eloop bit w x d (k + 1) (l.set (k / 8).toNat (Go.bits .or .u8 (rd l (k / 8)) (xbit bit w x k * 2 ^ (k % 8).toNat)))
theorem fieldExtract_loop {s b len bit n w u i d : Int} (h : VF s b len bit n w u) (x : List Int) (hx : (x.length : Int) = numU bit n w) : ∀ (e : Nat) (k : Int) (q : Nat) (l : List Int), 0 ≤ k → k + e = n → e < q → (l.length : Int) = (n + 7) / 8 →
    field_Extract.l0 q x l n k s b len bit n w u i d = some (strOfNums (eloop bit w x e k l)) := by
  intro e
  induction e with
  | zero =>
    intro k q l h0 hk hq hl
    obtain ⟨q, rfl⟩ : ∃ m, q = m + 1 := ⟨q - 1, by omega⟩
    simp only [field_Extract.l0]; rw [if_neg (by omega)]; rfl
  | succ e ih =>
    intro k q l h0 hk hq hl
    obtain ⟨q, rfl⟩ : ∃ m, q = m + 1 := ⟨q - 1, by omega⟩
    have hb := uOf_bd h h0 (show k < n by omega)
    have hn : n ≤ 256 := by unfold VF at h; omega
    have e1 : wrap64 (Int.tdiv k 8) = k / 8 := by rw [tdiv_pos h0]; exact wrap64_id (by omega) (by omega)
    have e2 : Int.tmod k 8 = k % 8 := tmod_pos h0
    simp only [field_Extract.l0]
    rw [if_pos (by omega), pos_eq h h0 (by omega), Option.bind_some, e1, e2]
    simp only
    rw [if_pos (by omega), if_pos (by omega), if_pos hb.1, if_pos (by omega), if_pos hb.2.2.1, if_pos (by omega), wrap64_id (a := k + 1) (by omega) (by omega)]
    rw [show Go.bits .and .u64 (shr .u64 (rd x (uOf bit w k)) (pOf bit w k)) 1 = xbit bit w x k from rfl, (put_two (xbit_two bit w x k) (t := k % 8) (by omega) (by omega)).1]
    exact ih (k + 1) q _ (by omega) (by omega) (by omega) (by rw [List.length_set]; exact hl)
theorem refExtract_loop {s b len bit n w u i d : Int} (h : VF s b len bit n w u) (x : List Int) (hx : (x.length : Int) = numU bit n w) : ∀ (e : Nat) (k : Int) (q : Nat) (l : List Int), 0 ≤ k → k + e = n → e < q → (l.length : Int) = (n + 7) / 8 →
    platformfwref09_Extract.l0 q x (fstU bit w) l k s b len bit n w u i d = some (strOfNums (eloop bit w x e k l)) := by
  intro e
  induction e with
  | zero =>
    intro k q l h0 hk hq hl
    obtain ⟨q, rfl⟩ : ∃ m, q = m + 1 := ⟨q - 1, by omega⟩
    simp only [platformfwref09_Extract.l0]; rw [if_neg (by omega)]; rfl
  | succ e ih =>
    intro k q l h0 hk hq hl
    obtain ⟨q, rfl⟩ : ∃ m, q = m + 1 := ⟨q - 1, by omega⟩
    have hb := uOf_bd h h0 (show k < n by omega)
    have hn : n ≤ 256 := by unfold VF at h; omega
    have f1 : wrap64 (Int.tdiv k 8) = k / 8 := by rw [tdiv_pos h0]; exact wrap64_id (by omega) (by omega)
    have f2 : IntKind.u64.wrap (Int.tmod k 8) = k % 8 := by rw [tmod_pos h0]; exact wrap_u64_id (by omega) (by omega)
    obtain ⟨e1, e2, e3, e4, e5, e6, e7⟩ := pos_raw h h0 (show k < n by omega)
    simp only [platformfwref09_Extract.l0]
    rw [if_pos (by omega), e1, if_neg e2, e3, e4, e5, e7, if_pos hb.1, if_pos (by omega), wrap_u64_id (a := pOf bit w k) (by omega) (by omega), if_pos hb.2.2.1, f1, f2, if_pos (by omega), if_pos (by omega), if_pos (by omega), wrap64_id (a := k + 1) (by omega) (by omega)]
    rw [show Go.bits .and .u64 (shr .u64 (rd x (uOf bit w k)) (pOf bit w k)) 1 = xbit bit w x k from rfl, (put_two (xbit_two bit w x k) (t := k % 8) (by omega) (by omega)).2]
    exact ih (k + 1) q _ (by omega) (by omega) (by omega) (by rw [List.length_set]; exact hl)
/-- What is taken out. -/
def exOf (s b len bit n w u : Int) (x : List Int) : ByteArray := if VF s b len bit n w u ∧ (x.length : Int) = numU bit n w then strOfNums (eloop bit w x n.toNat 0 (List.replicate ((n + 7) / 8).toNat 0)) else ⟨#[]⟩
theorem fieldExtract_eq {s b len bit n w u i d : Int} (hb : 0 ≤ b) (hb2 : b < 18446744073709551616) (hl : 0 ≤ len) (hl2 : len < 18446744073709551616) (k : Nat) (hk : 300 ≤ k) (x : List Int) :
    field_Extract.f k s b len bit n w u i d x = some (exOf s b len bit n w u x) := by
  obtain ⟨k, rfl⟩ : ∃ m, k = m + 1 := ⟨k - 1, by omega⟩
  unfold field_Extract.f exOf
  rw [fieldUnits_eq hb hb2 hl hl2 (k + 1) (by omega), Option.bind_some]
  by_cases h : VF s b len bit n w u
  · have hn := numU_bd h
    have hn2 : 1 ≤ n ∧ n ≤ 256 := by unfold VF at h; omega
    rw [if_pos h]
    simp only
    rw [if_neg (by omega)]
    simp only [field_Extract.j0]
    by_cases hx : (x.length : Int) = numU bit n w
    · rw [if_neg (by simp [hx]), if_pos ⟨h, hx⟩]
      unfold field_size.f
      rw [Option.bind_some, wrap64_id (a := n + 8) (by omega) (by omega), wrap64_id (a := n + 8 - 1) (by omega) (by omega), tdiv_pos (by omega), show n + 8 - 1 = n + 7 by omega, wrap64_id (a := (n + 7) / 8) (by omega) (by omega), if_pos (by omega), if_pos (by omega)]
      exact fieldExtract_loop h x hx n.toNat 0 k _ (by omega) (by omega) (by omega) (by rw [List.length_replicate]; omega)
    · rw [if_pos (by simpa using hx), if_neg (fun hh => hx hh.2)]
  · obtain ⟨k, rfl⟩ : ∃ m, k = m + 1 := ⟨k - 1, by omega⟩
    rw [if_neg (c := VF s b len bit n w u ∧ (x.length : Int) = numU bit n w) (fun hh => h hh.1), if_neg h]
    simp only
    rw [if_pos trivial]
    simp only [field_Extract.j0]
    rw [if_pos trivial]
theorem refExtract_eq {s b len bit n w u i d : Int} (hb : 0 ≤ b) (hb2 : b < 18446744073709551616) (hl : 0 ≤ len) (hl2 : len < 18446744073709551616) (k : Nat) (hk : 300 ≤ k) (x : List Int) :
    platformfwref09_Extract.f k s b len bit n w u i d x = some (exOf s b len bit n w u x) := by
  obtain ⟨k, rfl⟩ : ∃ m, k = m + 1 := ⟨k - 1, by omega⟩
  unfold platformfwref09_Extract.f exOf
  rw [refUnits_eq hb hb2 hl hl2 (k + 1) (by omega), Option.bind_some]
  by_cases h : VF s b len bit n w u
  · have hn := numU_bd h
    have hn2 : 1 ≤ n ∧ n ≤ 256 := by unfold VF at h; omega
    rw [if_pos h]
    simp only
    rw [if_neg (by omega)]
    simp only [platformfwref09_Extract.j0]
    by_cases hx : (x.length : Int) = numU bit n w
    · rw [if_neg (by simp [hx]), if_pos (c := VF s b len bit n w u ∧ (x.length : Int) = numU bit n w) ⟨h, hx⟩]
      rw [wrap64_id (a := n + 7) (by omega) (by omega), tdiv_pos (by omega), wrap64_id (a := (n + 7) / 8) (by omega) (by omega), if_pos (by omega), if_pos (by omega)]
      exact refExtract_loop h x hx n.toNat 0 k _ (by omega) (by omega) (by omega) (by rw [List.length_replicate]; omega)
    · rw [if_pos (by simpa using hx), if_neg (fun hh => hx hh.2)]
  · obtain ⟨k, rfl⟩ : ∃ m, k = m + 1 := ⟨k - 1, by omega⟩
    rw [if_neg (c := VF s b len bit n w u ∧ (x.length : Int) = numU bit n w) (fun hh => h hh.1), if_neg h]
    simp only
    rw [if_pos trivial]
    simp only [platformfwref09_Extract.j0]
    rw [if_pos trivial]
def fullW (w : Int) : Int := shr .u64 18446744073709551615 (wrap64 (64 - (wrap64 (8 * w))))
theorem full_eq {s b len bit n w u i d : Int} (h : VF s b len bit n w u) : field_full.f s b len bit n w u i d = some (fullW w) ∧ platformfwref09_Ones.f w = some (fullW w) := by
  have hw : w = 1 ∨ w = 2 ∨ w = 4 ∨ w = 8 := by unfold VF at h; exact h.2.2.2.2.2.1
  unfold field_full.f platformfwref09_Ones.f fullW
  have e1 : wrap64 (8 * w) = 8 * w := wrap64_id (by omega) (by omega)
  have e2 : wrap64 (64 - 8 * w) = 64 - 8 * w := wrap64_id (by omega) (by omega)
  rw [e1, e2, wrap_u64_id (a := 64 - 8 * w) (by omega) (by omega), if_pos (by omega)]
  exact ⟨rfl, rfl⟩
/-! ### layer 11: putting bits in -/
def sbit (a : ByteArray) (k : Int) : Int := if k / 8 ≥ (a.size : Int) then 0 else Go.bits .and .u64 (IntKind.u64.wrap (shr .u8 (bt a (k / 8)) (k % 8))) 1
theorem bit_two (a : ByteArray) {k : Int} (h0 : 0 ≤ k) (h1 : k < 1000) : field_bit.f a k = some (sbit a k) ∧ platformfwref09_bit.f a k = some (sbit a k) := by
  have f1 : wrap64 (Int.tdiv k 8) = k / 8 := by rw [tdiv_pos h0]; exact wrap64_id (by omega) (by omega)
  have f2 : IntKind.u64.wrap (k % 8) = k % 8 := wrap_u64_id (by omega) (by omega)
  unfold field_bit.f platformfwref09_bit.f sbit
  rw [f1, tmod_pos h0, f2]
  by_cases h : k / 8 ≥ (a.size : Int)
  · rw [if_pos h, if_pos h]; exact ⟨rfl, rfl⟩
  · rw [if_neg h, if_neg h, if_pos (by omega), if_pos (by omega), if_pos (by omega)]; exact ⟨rfl, rfl⟩
/-- What stays of the units, or is put there. -/
def baseU (u w : Int) (m x : List Int) (j : Nat) : Int := if u = 0 then Go.bits .andNot .u64 (Go.bits .and .u64 (rd x j) (fullW w)) (rd m j) else if u = 1 then Go.bits .andNot .u64 (fullW w) (rd m j) else 0
theorem insField_base {s b len bit n w u i d : Int} (h : VF s b len bit n w u) (a : ByteArray) (x m : List Int) (hm : m.length ≤ 1000) (hx : x.length = m.length) (hm0 : 0 < m.length) : ∀ (e : Nat) (j q : Nat) (l : List Int), l = (List.range j).map (baseU u w m x) → j + e = m.length → e + 1 < q →
    ∃ q', q' + e + 1 = q ∧ field_Insert.l0 q a x l m m.length j s b len bit n w u i d = field_Insert.l1 q' a ((List.range m.length).map (baseU u w m x)) n 0 s b len bit n w u i d := by
  intro e
  induction e with
  | zero =>
    intro j q l hl hj hq
    obtain ⟨q, rfl⟩ : ∃ m, q = m + 1 := ⟨q - 1, by omega⟩
    refine ⟨q, by omega, ?_⟩
    obtain rfl : j = m.length := by omega
    simp only [field_Insert.l0]
    rw [if_neg (by omega), if_pos (by rw [hl, List.length_map, List.length_range]; omega), hl]
  | succ e ih =>
    intro j q l hl hj hq
    obtain ⟨q, rfl⟩ : ∃ m, q = m + 1 := ⟨q - 1, by omega⟩
    have hlen : l.length = j := by rw [hl, List.length_map, List.length_range]
    have hnext : ∀ z, z = baseU u w m x j → l ++ [z] = (List.range (j + 1)).map (baseU u w m x) := by
      intro z hz; rw [List.range_succ, List.map_append, hl, hz]; rfl
    have hu : 0 ≤ u ∧ u ≤ 2 := by unfold VF at h; omega
    simp only [field_Insert.l0]
    rw [if_pos (by omega), if_pos (by omega), if_pos (by omega), wrap64_id (a := (j : Int) + 1) (by omega) (by omega)]
    by_cases u0 : u = 0
    · rw [if_pos u0, if_pos (by omega), (full_eq h).1, Option.bind_some, if_pos (by omega)]
      obtain ⟨q', h1, h2⟩ := ih (j + 1) q _ (hnext _ (by unfold baseU; rw [if_pos u0])) (by omega) (by omega)
      exact ⟨q', by omega, h2⟩
    · rw [if_neg u0]
      by_cases u1 : u = 1
      · rw [if_pos u1, (full_eq h).1, Option.bind_some, if_pos (by omega)]
        obtain ⟨q', h1, h2⟩ := ih (j + 1) q _ (hnext _ (by unfold baseU; rw [if_neg u0, if_pos u1])) (by omega) (by omega)
        exact ⟨q', by omega, h2⟩
      · rw [if_neg u1, if_pos (by omega)]
        obtain ⟨q', h1, h2⟩ := ih (j + 1) q _ (hnext _ (by unfold baseU; rw [if_neg u0, if_neg u1])) (by omega) (by omega)
        exact ⟨q', by omega, h2⟩
theorem insRef_base {s b len bit n w u i d : Int} (h : VF s b len bit n w u) (a : ByteArray) (f0 : Int) (x m : List Int) (hm : m.length ≤ 1000) (hx : x.length = m.length) : ∀ (e : Nat) (j q : Nat) (l : List Int), l = (List.range j).map (baseU u w m x) ++ List.replicate (m.length - j) 0 → j + e = m.length → e + 1 < q →
    ∃ q', q' + e + 1 = q ∧ platformfwref09_Insert.l0 q a x f0 m.length m l j s b len bit n w u i d = platformfwref09_Insert.l1 q' a f0 ((List.range m.length).map (baseU u w m x)) 0 s b len bit n w u i d := by
  intro e
  induction e with
  | zero =>
    intro j q l hl hj hq
    obtain ⟨q, rfl⟩ : ∃ m, q = m + 1 := ⟨q - 1, by omega⟩
    refine ⟨q, by omega, ?_⟩
    obtain rfl : j = m.length := by omega
    simp only [platformfwref09_Insert.l0]
    rw [if_neg (by omega), hl, Nat.sub_self, List.replicate_zero, List.append_nil]
  | succ e ih =>
    intro j q l hl hj hq
    obtain ⟨q, rfl⟩ : ∃ m, q = m + 1 := ⟨q - 1, by omega⟩
    have hlen : l.length = m.length := by rw [hl, List.length_append, List.length_map, List.length_range, List.length_replicate]; omega
    have hx1 : ((List.range j).map (baseU u w m x)).length = j := by rw [List.length_map, List.length_range]
    have hnext : ∀ z, z = baseU u w m x j → l.set j z = (List.range (j + 1)).map (baseU u w m x) ++ List.replicate (m.length - (j + 1)) 0 := by
      intro z hz
      rw [hl, List.set_append_right _ _ (by omega), hx1, Nat.sub_self, show m.length - j = (m.length - (j + 1)) + 1 by omega, List.replicate_succ, List.set_cons_zero, List.range_succ, List.map_append, hz]
      simp
    have hkeep : 0 = baseU u w m x j → l = (List.range (j + 1)).map (baseU u w m x) ++ List.replicate (m.length - (j + 1)) 0 := by
      intro hz
      rw [hl, show m.length - j = (m.length - (j + 1)) + 1 by omega, List.replicate_succ, List.range_succ, List.map_append]
      simp [← hz]
    have hu : 0 ≤ u ∧ u ≤ 2 := by unfold VF at h; omega
    simp only [platformfwref09_Insert.l0]
    rw [if_pos (c := (j : Int) < (m.length : Int)) (by omega), wrap64_id (a := (j : Int) + 1) (by omega) (by omega), Int.toNat_natCast]
    by_cases u0 : u = 0
    · rw [if_pos u0, if_pos (c := (0 : Int) ≤ j) (by omega), if_pos (by omega), (full_eq (i := 0) (d := 0) h).2, Option.bind_some, if_pos (by omega), if_pos (by omega)]
      obtain ⟨q', h1, h2⟩ := ih (j + 1) q _ (hnext _ (by unfold baseU; rw [if_pos u0])) (by omega) (by omega)
      exact ⟨q', by omega, h2⟩
    · rw [if_neg u0]
      by_cases u1 : u = 1
      · rw [if_pos u1, (full_eq (i := 0) (d := 0) h).2, Option.bind_some, if_pos (c := (0 : Int) ≤ j) (by omega), if_pos (by omega), if_pos (by omega)]
        obtain ⟨q', h1, h2⟩ := ih (j + 1) q _ (hnext _ (by unfold baseU; rw [if_neg u0, if_pos u1])) (by omega) (by omega)
        exact ⟨q', by omega, h2⟩
      · rw [if_neg u1]
        obtain ⟨q', h1, h2⟩ := ih (j + 1) q _ (hkeep (by unfold baseU; rw [if_neg u0, if_neg u1])) (by omega) (by omega)
        exact ⟨q', by omega, h2⟩
theorem insField_loop {s b len bit n w u i d : Int} (h : VF s b len bit n w u) (a : ByteArray) : ∀ (e : Nat) (k : Int) (q : Nat) (l : List Int), 0 ≤ k → k + e = n → e < q → (l.length : Int) = numU bit n w →
    field_Insert.l1 q a l n k s b len bit n w u i d = some (gloop bit w (sbit a) e k l) := by
  intro e
  induction e with
  | zero =>
    intro k q l h0 hk hq hl
    obtain ⟨q, rfl⟩ : ∃ m, q = m + 1 := ⟨q - 1, by omega⟩
    simp only [field_Insert.l1]; rw [if_neg (by omega)]; rfl
  | succ e ih =>
    intro k q l h0 hk hq hl
    obtain ⟨q, rfl⟩ : ∃ m, q = m + 1 := ⟨q - 1, by omega⟩
    have hb := uOf_bd h h0 (show k < n by omega)
    have hn : n ≤ 256 := by unfold VF at h; omega
    simp only [field_Insert.l1]
    rw [if_pos (by omega), pos_eq h h0 (by omega), Option.bind_some]
    simp only
    rw [if_pos hb.1, if_pos (by omega), (bit_two a h0 (by omega)).1, Option.bind_some, if_pos hb.2.2.1, wrap64_id (a := k + 1) (by omega) (by omega)]
    exact ih (k + 1) q _ (by omega) (by omega) (by omega) (by rw [List.length_set]; exact hl)
theorem insRef_loop {s b len bit n w u i d : Int} (h : VF s b len bit n w u) (a : ByteArray) : ∀ (e : Nat) (k : Int) (q : Nat) (l : List Int), 0 ≤ k → k + e = n → e < q → (l.length : Int) = numU bit n w →
    platformfwref09_Insert.l1 q a (fstU bit w) l k s b len bit n w u i d = some (gloop bit w (sbit a) e k l) := by
  intro e
  induction e with
  | zero =>
    intro k q l h0 hk hq hl
    obtain ⟨q, rfl⟩ : ∃ m, q = m + 1 := ⟨q - 1, by omega⟩
    simp only [platformfwref09_Insert.l1]; rw [if_neg (by omega)]; rfl
  | succ e ih =>
    intro k q l h0 hk hq hl
    obtain ⟨q, rfl⟩ : ∃ m, q = m + 1 := ⟨q - 1, by omega⟩
    have hb := uOf_bd h h0 (show k < n by omega)
    have hn : n ≤ 256 := by unfold VF at h; omega
    obtain ⟨e1, e2, e3, e4, e5, e6, e7⟩ := pos_raw h h0 (show k < n by omega)
    simp only [platformfwref09_Insert.l1]
    rw [if_pos (by omega), e1, if_neg e2, e3, e4, e5, e7, if_pos hb.1, if_pos (by omega), (bit_two a h0 (by omega)).2, Option.bind_some, wrap_u64_id (a := pOf bit w k) (by omega) (by omega), if_pos hb.2.2.1, wrap64_id (a := k + 1) (by omega) (by omega)]
    exact ih (k + 1) q _ (by omega) (by omega) (by omega) (by rw [List.length_set]; exact hl)
/-- The units with the bits of a put in. -/
def inOf (s b len bit n w u : Int) (a : ByteArray) (x : List Int) : List Int := if VF s b len bit n w u ∧ (x.length : Int) = numU bit n w then gloop bit w (sbit a) n.toNat 0 ((List.range (masksOf s b len bit n w u).length).map (baseU u w (masksOf s b len bit n w u) x)) else []
theorem inOf_length {s b len bit n w u : Int} (a : ByteArray) (x : List Int) : (inOf s b len bit n w u a x).length ≤ 257 := by
  unfold inOf
  by_cases h : VF s b len bit n w u ∧ (x.length : Int) = numU bit n w
  · rw [if_pos h, gloop_length, List.length_map, List.length_range]
    have := masksOf_length h.1; have := numU_bd h.1; omega
  · rw [if_neg h]; simp
theorem fieldInsert_eq {s b len bit n w u i d : Int} (hb : 0 ≤ b) (hb2 : b < 18446744073709551616) (hl : 0 ≤ len) (hl2 : len < 18446744073709551616) (k : Nat) (hk : 1000 ≤ k) (a : ByteArray) (x : List Int) :
    field_Insert.f k s b len bit n w u i d a x = some (inOf s b len bit n w u a x) := by
  unfold field_Insert.f inOf
  rw [fieldMasks_eq hb hb2 hl hl2 k (by omega), Option.bind_some]
  by_cases h : VF s b len bit n w u
  · have hn := numU_bd h
    have hm := masksOf_length h
    have hn2 : 1 ≤ n ∧ n ≤ 256 := by unfold VF at h; omega
    rw [hm]
    by_cases hx : (x.length : Int) = numU bit n w
    · rw [if_pos hx, if_pos ⟨h, hx⟩, ← hm]
      obtain ⟨q', h1, h2⟩ := insField_base (i := i) (d := d) h a x (masksOf s b len bit n w u) (by omega) (by omega) (by omega) (masksOf s b len bit n w u).length 0 k [] (by simp) (by omega) (by omega)
      rw [show ((0 : Nat) : Int) = 0 from rfl] at h2
      rw [h2]
      exact insField_loop h a n.toNat 0 q' _ (by omega) (by omega) (by omega) (by rw [List.length_map, List.length_range]; exact hm)
    · rw [if_neg hx, if_neg (fun hh => hx hh.2)]
  · rw [if_neg (c := VF s b len bit n w u ∧ (x.length : Int) = numU bit n w) (fun hh => h hh.1)]
    obtain ⟨k, rfl⟩ : ∃ m, k = m + 1 := ⟨k - 1, by omega⟩
    have hm : masksOf s b len bit n w u = [] := by unfold masksOf; rw [if_neg h]
    rw [hm]
    by_cases hx : (x.length : Int) = (([] : List Int).length : Int)
    · rw [if_pos hx]
      simp only [field_Insert.l0]
      rw [if_neg (by simp), if_neg (by simp)]
    · rw [if_neg hx]
theorem refInsert_eq {s b len bit n w u i d : Int} (hb : 0 ≤ b) (hb2 : b < 18446744073709551616) (hl : 0 ≤ len) (hl2 : len < 18446744073709551616) (k : Nat) (hk : 1000 ≤ k) (a : ByteArray) (x : List Int) :
    platformfwref09_Insert.f k s b len bit n w u i d a x = some (inOf s b len bit n w u a x) := by
  obtain ⟨k, rfl⟩ : ∃ m, k = m + 1 := ⟨k - 1, by omega⟩
  unfold platformfwref09_Insert.f inOf
  rw [refUnits_eq hb hb2 hl hl2 (k + 1) (by omega), Option.bind_some]
  by_cases h : VF s b len bit n w u
  · have hn := numU_bd h
    have hm := masksOf_length h
    have hn2 : 1 ≤ n ∧ n ≤ 256 := by unfold VF at h; omega
    rw [if_pos h]
    simp only
    rw [if_neg (by omega)]
    simp only [platformfwref09_Insert.j0]
    by_cases hx : (x.length : Int) = numU bit n w
    · rw [if_neg (by simp [hx]), if_pos (c := VF s b len bit n w u ∧ (x.length : Int) = numU bit n w) ⟨h, hx⟩, refMasks_eq hb hb2 hl hl2 k (by omega), Option.bind_some, if_pos (by omega), if_pos (by omega)]
      obtain ⟨q', h1, h2⟩ := insRef_base (i := i) (d := d) h a (fstU bit w) x (masksOf s b len bit n w u) (by omega) (by omega) (masksOf s b len bit n w u).length 0 k (List.replicate (numU bit n w).toNat 0) (by rw [← hm]; simp) (by omega) (by omega)
      rw [show ((0 : Nat) : Int) = 0 from rfl, hm] at h2
      rw [h2]
      exact insRef_loop h a n.toNat 0 q' _ (by omega) (by omega) (by omega) (by rw [List.length_map, List.length_range]; exact hm)
    · rw [if_pos (by simpa using hx), if_neg (fun hh => hx hh.2)]
  · rw [if_neg (c := VF s b len bit n w u ∧ (x.length : Int) = numU bit n w) (fun hh => h hh.1), if_neg h]
    simp only
    rw [if_pos trivial]
    simp only [platformfwref09_Insert.j0]
    rw [if_pos trivial]
theorem fit_ex (l : List Int) {m : Int} (h0 : 0 ≤ m) (h1 : m ≤ 257) : ∃ r, platformfwlaw11_fit.f l m = some r := by
  unfold platformfwlaw11_fit.f
  rw [if_pos h0, if_pos (by omega)]; exact ⟨_, rfl⟩
theorem FieldMoves : St.FieldMoves := by
  intro s b len bit n w u i d a x c _ hb hl _ _ _ _ _ _ _ _
  have hb' := wf_u64 hb
  have hl' := wf_u64 hl
  obtain ⟨s', b', len', bit', n', w', u', i', d', he, h1, h2, h3, h4⟩ := spec_ex (s := s) (bit := bit) (n := n) (w := w) (u := u) (i := i) (d := d) hb'.1 hb'.2 hl'.1 hl'.2 1000 (by omega)
  refine ⟨1000, ?_⟩
  unfold platformfwlaw11_FieldMoves.f
  rw [he, Option.bind_some]
  simp only
  cases c with
  | true =>
    have hf : ∃ r, platformfwlaw11_fit.f x (if VF s' b' len' bit' n' w' u' then (fstU bit' w', numU bit' n' w') else (0, 0)).2 = some r := by
      by_cases h : VF s' b' len' bit' n' w' u'
      · rw [if_pos h]; have := numU_bd h; exact fit_ex x (by show 0 ≤ numU bit' n' w'; omega) (by show numU bit' n' w' ≤ 257; omega)
      · rw [if_neg h]; exact fit_ex x (by show (0 : Int) ≤ 0; omega) (by show (0 : Int) ≤ 257; omega)
    obtain ⟨r, hr⟩ := hf
    rw [if_pos rfl, refUnits_eq h1 h2 h3 h4 1000 (by omega), Option.bind_some, hr, Option.bind_some, awake11_at 1000 (by omega), Option.bind_some, if_pos rfl, fieldExtract_eq h1 h2 h3 h4 1000 (by omega), Option.bind_some, refExtract_eq h1 h2 h3 h4 1000 (by omega), Option.bind_some, if_pos rfl, fieldInsert_eq h1 h2 h3 h4 1000 (by omega), Option.bind_some, refInsert_eq h1 h2 h3 h4 1000 (by omega), Option.bind_some]
    rw [equal_u64 _ (by have := inOf_length (s := s') (b := b') (len := len') (bit := bit') (n := n') (w := w') (u := u') a r; omega) 1000 (by have := inOf_length (s := s') (b := b') (len := len') (bit := bit') (n := n') (w := w') (u := u') a r; omega), Option.bind_some, if_pos rfl, fieldExtract_eq hb'.1 hb'.2 hl'.1 hl'.2 1000 (by omega), Option.bind_some, refExtract_eq hb'.1 hb'.2 hl'.1 hl'.2 1000 (by omega), Option.bind_some]
    simp
  | false =>
    rw [if_neg (by decide), awake11_at 1000 (by omega), Option.bind_some, if_pos rfl, fieldExtract_eq h1 h2 h3 h4 1000 (by omega), Option.bind_some, refExtract_eq h1 h2 h3 h4 1000 (by omega), Option.bind_some, if_pos rfl, fieldInsert_eq h1 h2 h3 h4 1000 (by omega), Option.bind_some, refInsert_eq h1 h2 h3 h4 1000 (by omega), Option.bind_some]
    rw [equal_u64 _ (by have := inOf_length (s := s') (b := b') (len := len') (bit := bit') (n := n') (w := w') (u := u') a x; omega) 1000 (by have := inOf_length (s := s') (b := b') (len := len') (bit := bit') (n := n') (w := w') (u := u') a x; omega), Option.bind_some, if_pos rfl, fieldExtract_eq hb'.1 hb'.2 hl'.1 hl'.2 1000 (by omega), Option.bind_some, refExtract_eq hb'.1 hb'.2 hl'.1 hl'.2 1000 (by omega), Option.bind_some]
    simp
end Go.Proofs.Ytmnmidclaaiffaa.Pure
