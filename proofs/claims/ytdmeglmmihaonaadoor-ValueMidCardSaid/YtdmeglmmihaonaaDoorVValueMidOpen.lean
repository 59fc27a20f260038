/- How a call's arguments are opened: what a value that reads as data of a type holds, cell by cell, and its bounds; of whatever program. -/
import Derived.Test.YtdmeglmmihaonaaDoorVValueMid
import Derived.ChangeArms
import Derived.Carry
import Derived.OpenShut
import Derived.SizedLaws
import Derived.Deep.Slices
namespace Go.Proofs.YtdmeglmmihaonaaDoor.Plain
open Go.RowKit Go.Proofs.YtdmeglmmihaonaaDoorW.PrintWords Go.Proofs.YtdmeglmmihaonaaDoorW.PrintLast Go.Proofs.YtdmeglmmihaonaaDoorW.PrintMore
set_option linter.unusedVariables false
/-- All weights are within reach. -/
def Light {H : Type} (P : Program) (t : TypeId) (d : DataW H) : Prop := ∀ z ∈ d.weights P t, z ≤ 140737488351232
section
variable {H : Type} {enc : TypeId × Value → H} {P : Program} {w : World} {base : Nat} {spare : Nat → Bool} {held : Bool} {fuel : Nat} {t : TypeId} {cs : List Value} {y : DataW H × List MemPlace}
theorem cells_get {a : Addr} {n : Nat} {l : List Value} (h : w.cells? base a n = some l) : l.length = n ∧ ∀ i u, l[i]? = some u → w.cell? (a.add i) = some u := by
  unfold World.cells? at h
  split at h
  case isFalse => cases h
  have hlen := mapM_some_length h
  rw [List.length_range] at hlen
  refine ⟨hlen, fun i u hu => ?_⟩
  obtain ⟨hi, _⟩ := List.getElem?_eq_some_iff.1 hu
  exact (mapM_some_get h i i (by rw [List.getElem?_range (by omega)])).trans hu
theorem weights_all {e : TypeId} {d : DataW H} {z : Nat} (hz : z ∈ d.weights P e) : ∀ {l : List (DataW H)}, d ∈ l → z ∈ DataW.weightsAll P e l
  | [], h => by cases h
  | a :: l, h => by
    rw [DataW.weightsAll]
    rcases List.mem_cons.1 h with rfl | h
    · exact List.mem_append_left _ hz
    · exact List.mem_append_right _ (weights_all hz h)
theorem light_of_all {ts : List TypeId} {ds : List (DataW H)} (h : (DataW.weightsEach P ts ds).all (· ≤ reachBytes) = true) {j : Nat} {t : TypeId} {d : DataW H} (ht : ts[j]? = some t) (hd : ds[j]? = some d) : Light P t d := by
  intro z hz
  have := List.all_eq_true.1 h _ (DataW.weights_mem_each ht hd z hz)
  have hr : reachBytes = 140737488351232 := rfl
  simp at this
  omega
theorem light_field {fs : Array Field} {ps : List (DataW H)} (hu : P.underlying t = some (.struct fs)) (h : Light P t (.agg ps)) {j : Nat} {f : Field} {d : DataW H} (hf : fs[j]? = some f) (hd : ps[j]? = some d) : Light P f.type d := by
  intro z hz
  refine h z ?_
  rw [DataW.weights, hu]
  exact DataW.weights_mem_each (t := f.type) (by simpa using ⟨f, hf, rfl⟩) hd z hz
/-- A slice that came in, whatever its elements are. -/
theorem open_slice {e : TypeId} {α : Type} (kd : Kd α) (ok : α → Prop) (ht : P.underlying t = some (.slice e)) (hsz : kd.sz = P.cellsOf e)
    (hel : ∀ (fuel : Nat) (cs : List Value) (y : DataW H × List MemPlace), DataW.trod enc P w base spare held fuel e cs = some y → Light P e y.1 → ∃ x, kd.K w x cs ∧ ok x)
    (h : DataW.trod enc P w base spare held fuel t cs = some y) (hw : Light P t y.1) :
    ∃ (A : Option Addr) (c : Nat) (xs : List α), cs = [.slice A xs.length c] ∧ xs.length ≤ c ∧ kd.C w A xs.length xs ∧ xs.length * P.bytesOf e ≤ 140737488351232 ∧ (∀ x ∈ xs, ok x) := by
  rcases DataW.trod_slice ht h with ⟨rfl, _⟩ | ⟨a, len, cap, elems, rest, n, _, rfl, hy, _, hlc, hcm, hel2, hget, _⟩
  · exact ⟨none, 0, [], rfl, Nat.le_refl _, ⟨rfl, by simp, fun h => by cases h⟩, by simp, fun x hx => by cases hx⟩
  · have hx : ∀ i : Fin len, ∃ x, ok x ∧ ∃ c, kd.K w x c ∧ c.length = P.cellsOf e ∧ ∀ j u, c[j]? = some u → w.cell? ((a.add (i.1 * P.cellsOf e)).add j) = some u := by
      intro i
      have hg := hget i.1 i.2
      have hi : i.1 < elems.length := by omega
      rw [List.getElem?_eq_getElem hi] at hg
      obtain ⟨l, hl, hd⟩ := Option.bind_eq_some_iff.1 hg
      obtain ⟨x, hk, ho⟩ := hel _ _ _ hd (fun z hz => hw z (by
        rw [hy, DataW.weights, ht]
        exact List.mem_cons_of_mem _ (List.mem_append_left _ (weights_all hz (List.mem_map_of_mem (List.getElem_mem hi))))))
      obtain ⟨hc1, hc2⟩ := cells_get hl
      exact ⟨x, ho, l, hk, hc1, hc2⟩
    obtain ⟨f, hf⟩ := Classical.axiomOfChoice hx
    refine ⟨some a, cap, List.ofFn f, by simp, by simpa using hlc, ⟨rfl, ?_, fun _ => ⟨a, rfl, fun j p hj => ?_⟩⟩, ?_, fun x hx => ?_⟩
    · rw [List.length_ofFn]
      have : maxLen = 9223372036854775807 := by decide
      omega
    · obtain ⟨hj1, hj2⟩ := List.getElem?_eq_some_iff.1 hj
      rw [List.getElem_ofFn] at hj2
      rw [List.length_ofFn] at hj1
      obtain ⟨_, c, hk, hc1, hc2⟩ := hf ⟨j, hj1⟩
      refine ⟨c, by rw [hsz]; exact hc1, by rw [← hj2]; exact hk, fun i u hu => ?_⟩
      rw [hsz]
      have := hc2 i u hu
      rwa [Deep.add_add] at this
    · have h1 := hw ((elems.length + rest.length) * P.bytesOf e) (by rw [hy, DataW.weights, ht]; simp)
      rw [List.length_ofFn]
      exact Nat.le_trans (Nat.mul_le_mul_right _ (by omega)) h1
    · obtain ⟨i, hi⟩ := List.mem_ofFn.1 hx
      rw [← hi]; exact (hf i).1
theorem open_str (ht : P.underlying t = some .string) (h : DataW.trod enc P w base spare held fuel t cs = some y) (hw : Light P t y.1) : ∃ s : ByteArray, cs = [.string s] ∧ s.size ≤ 140737488351232 := by
  obtain ⟨s, rfl, rfl, _⟩ := DataW.trod_string ht h
  exact ⟨s, rfl, by simpa using hw s.data.toList.length (by simp [DataW.weights])⟩
theorem open_num {k : IntKind} (ht : P.underlying t = some (.int k)) (h : DataW.trod enc P w base spare held fuel t cs = some y) : ∃ n, cs = [.int k n] ∧ (Lit.int k n).wf = true := by
  obtain ⟨n, rfl, _, hn⟩ := DataW.trod_int ht h
  exact ⟨n, rfl, hn⟩
theorem open_bit (ht : P.underlying t = some .bool) (h : DataW.trod enc P w base spare held fuel t cs = some y) : ∃ b, cs = [.bool b] := by
  obtain ⟨b, rfl, _⟩ := DataW.trod_bool ht h
  exact ⟨b, rfl⟩
end
end Go.Proofs.YtdmeglmmihaonaaDoor.Plain
