/- Contracts of functions that the print does not take, walked by hand: what the call comes to, in plain lists and numbers. -/
import Derived.Test.YtpjajjmipbjliaaDoorProg
import Derived.Deep.Draws
import Derived.Deep.AppendLies
import Derived.OwnWalk
import Derived.Laws.BytesArg
import Derived.Laws.MakeOwn
import Derived.Tactics
import Derived.WalkKit
import Derived.KernelRfl
import Derived.RowKit3
import Derived.Deep.LoopGhost
import Derived.Deep.QuietTactic
import Derived.BigQuiet
import Derived.WideLaws
import Derived.Deep.DeepCutAuto
import Derived.Laws.Cover1
import Derived.Test.YtpjajjmipbjliaaDoorWMore
namespace Go.Proofs.YtpjajjmipbjliaaDoor.Ext
open Go.RowKit Go.Proofs.YtpjajjmipbjliaaDoorW.PrintWords Go.Proofs.YtpjajjmipbjliaaDoorW.PrintLast Go.Proofs.YtpjajjmipbjliaaDoorW.PrintMore
set_option linter.unusedVariables false
set_option linter.unusedSimpArgs false
/-! ### cmp.Compare[string]: function 69 -/
/-- Two lists of bytes: one is the less, or they are one. -/
theorem less_tri : ∀ (x y : List UInt8), (Op.bytesLess x y = true ∧ Op.bytesLess y x = false ∧ (x == y) = false) ∨ (Op.bytesLess x y = false ∧ Op.bytesLess y x = true ∧ (x == y) = false) ∨ (Op.bytesLess x y = false ∧ Op.bytesLess y x = false ∧ (x == y) = true) := by
  intro x
  induction x with
  | nil => intro y; cases y <;> simp [Op.bytesLess]
  | cons a x ih =>
    intro y
    cases y with
    | nil => simp [Op.bytesLess]
    | cons b y =>
      simp only [Op.bytesLess, List.cons_beq_cons]
      by_cases h1 : a < b
      · have h2 : ¬ b < a := by rw [UInt8.lt_iff_toNat_lt] at *; omega
        have h3 : (a == b) = false := by rw [beq_eq_false_iff_ne]; intro e; rw [e, UInt8.lt_iff_toNat_lt] at h1; omega
        have h4 : (b == a) = false := by rw [beq_eq_false_iff_ne]; intro e; rw [e, UInt8.lt_iff_toNat_lt] at h1; omega
        left; simp [h1, h2, h3, h4]
      · by_cases h2 : b < a
        · have h3 : (a == b) = false := by rw [beq_eq_false_iff_ne]; intro e; rw [e, UInt8.lt_iff_toNat_lt] at h2; omega
          have h4 : (b == a) = false := by rw [beq_eq_false_iff_ne]; intro e; rw [e, UInt8.lt_iff_toNat_lt] at h2; omega
          right; left; simp [h1, h2, h3, h4]
        · have he : a = b := by
            rw [UInt8.lt_iff_toNat_lt] at h1 h2
            exact UInt8.toNat_inj.1 (by omega)
          subst he
          rcases ih y with h | h | h
          · left; simp [h1, h.1, h.2.1, h.2.2]
          · right; left; simp [h1, h.1, h.2.1, h.2.2]
          · right; right; simp [h1, h.1, h.2.1, h.2.2]
def cmp_Compare_string.f (s t : ByteArray) : Option Int := some (if Op.bytesLess s.toList t.toList = true then -1 else if Op.bytesLess t.toList s.toList = true then 1 else 0)
theorem cmp_Compare_string.calls (a0 a1 : ByteArray) (r : Int) (w : World) (h : cmp_Compare_string.f a0 a1 = some r) :
    Calls Tryd.prog 69 #[.string a0, .string a1] w fun e w' => e = .returned (.int .i64 r) ∧ Drawn0 w w' := by
  have := Option.some.inj h
  subst this
  clear h
  have hx : (a0.toList == a0.toList) = true := by simp
  have hy : (a1.toList == a1.toList) = true := by simp
  rcases less_tri a0.toList a1.toList with ⟨h1, h2, h3⟩ | ⟨h1, h2, h3⟩ | ⟨h1, h2, h3⟩
  · rw [if_pos h1]
    go_enter Tryd.func69, Tryd.ntmps69
    go_wp2
    go_ret
    exact ⟨rfl, by repeat (first | exact Drawn0.refl _ | apply Drawn0.step)⟩
  · rw [if_neg (by rw [h1]; decide), if_pos h2]
    go_enter Tryd.func69, Tryd.ntmps69
    go_wp2
    go_ret
    exact ⟨rfl, by repeat (first | exact Drawn0.refl _ | apply Drawn0.step)⟩
  · rw [if_neg (by rw [h1]; decide), if_neg (by rw [h2]; decide)]
    go_enter Tryd.func69, Tryd.ntmps69
    go_wp2
    go_ret
    exact ⟨rfl, by repeat (first | exact Drawn0.refl _ | apply Drawn0.step)⟩
theorem tri_no1 {x y : List UInt8} (h3 : (!x == y) = false) (h1 : Op.bytesLess x y = false) (h2 : Op.bytesLess y x = true) : False := by
  rcases less_tri x y with ⟨z1, z2, z3⟩ | ⟨z1, z2, z3⟩ | ⟨z1, z2, z3⟩
  · rw [z2] at h2; cases h2
  · rw [z3] at h3; cases h3
  · rw [z2] at h2; cases h2
theorem tri_no2 {x y : List UInt8} (h3 : (!x == y) = true) (h1 : Op.bytesLess x y = false) (h2 : Op.bytesLess y x = false) : False := by
  rcases less_tri x y with ⟨z1, z2, z3⟩ | ⟨z1, z2, z3⟩ | ⟨z1, z2, z3⟩
  · rw [z1] at h1; cases h1
  · rw [z2] at h2; cases h2
  · rw [z3] at h3; cases h3

end Go.Proofs.YtpjajjmipbjliaaDoor.Ext
