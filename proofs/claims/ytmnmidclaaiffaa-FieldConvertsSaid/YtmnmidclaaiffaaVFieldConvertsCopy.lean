/- The builtin copy into a row of the call's own: what the row reads behind it; no program in sight. -/
import Derived.Test.YtmnmidclaaiffaaVFieldConverts
import Derived.Laws.IdiomCopy
import Derived.Laws.CopyOwn
namespace Go.Proofs.Ytmnmidclaaiffaa.Plain
open Go.RowKit Go.Proofs.YtmnmidclaaiffaaW.PrintWords Go.Proofs.YtmnmidclaaiffaaW.PrintLast Go.Proofs.YtmnmidclaaiffaaW.PrintMore
set_option linter.unusedVariables false
section
variable {α : Type} {enc : α → Value} {h1 : ∀ x, (enc x).oneCell' = true} {e base g cap : Nat} {ok : Nat → Prop}
/-- Cells set one by one from place o on. -/
theorem R_cells : ∀ (ys : List α) (o n : Nat) (W : World) (xs : List α), (Kd.scalar enc h1).R e W base ok (.slice (some ⟨g, 0, none⟩) n cap) xs → o + ys.length ≤ xs.length →
    (Kd.scalar enc h1).R e (W.setCells g o (ys.map enc)) base ok (.slice (some ⟨g, 0, none⟩) n cap) (xs.take o ++ (ys ++ xs.drop (o + ys.length))) ∧ W.grownBy (W.setCells g o (ys.map enc)) (some g)
  | [], o, n, W, xs, h, _ => by
    simp only [List.map_nil, World.setCells, List.length_nil, Nat.add_zero, List.nil_append, List.take_append_drop]
    exact ⟨h, grown_of_below (Below.refl _ _) _⟩
  | y :: ys, o, n, W, xs, h, hl => by
    simp only [List.length_cons] at hl
    have hs := Kd.R_putg h (o : Int) y
    rw [Int.toNat_natCast] at hs
    obtain ⟨r1, r2⟩ := R_cells ys (o + 1) n _ _ hs.1 (by rw [List.length_set]; omega)
    have e1 : (xs.set o y).take (o + 1) ++ (ys ++ (xs.set o y).drop (o + 1 + ys.length)) = xs.take o ++ (y :: ys ++ xs.drop (o + (y :: ys).length)) := by
      rw [List.take_set, List.drop_set, if_pos (by omega)]
      have : (xs.take (o + 1)).set o y = xs.take o ++ [y] := by
        rw [List.take_succ_eq_append_getElem (by omega), List.set_append_right _ _ (by rw [List.length_take]; omega)]
        rw [List.length_take, Nat.min_eq_left (by omega)]; simp
      rw [this, List.length_cons, show o + 1 + ys.length = o + (ys.length + 1) by omega]; simp
    rw [e1] at r1
    exact ⟨r1, World.grownBy.trans hs.2 r2⟩
end
section
variable {P : Program} {ops : Array Oper} {rest : List Oper} {o : Oper} {a : Act} {Q : Exit → Act → World → Prop}
/-- 'copy(dst, src)', dst a whole row of the call's own, src a row that is read: as one step of the walk. -/
theorem R_copy {α : Type} (enc : α → Value) (d : α) {h1 : ∀ x : α, (enc x).oneCell' = true} {w0 W : World} (base : Nat) (hgd : o.guard = none) (s x : Operand) (t e : TypeId)
    (ho : o.op = .call { callee := .builtin .copy, args := #[s, x], argTypes := #[t, t] })
    (ht : P.underlying t = some (.slice e)) (hs1 : (P.info? e).map (·.size) = some 1)
    (v : Value) (xs ys : List α) (A : Option Addr) (c : Nat) (ok : Nat → Prop) (hs : a.eval s = v) (hx : a.eval x = .slice A ys.length c)
    (HO : (Kd.scalar enc h1).R e W base ok v xs) (HR : (Kd.scalar enc h1).C W A ys.length ys) (HB : Below base w0 W)
    (h : ∀ w1, (Kd.scalar enc h1).R e w1 base ok v (ys.take xs.length ++ xs.drop ys.length) → Below base w0 w1 → W.grownBy w1 v.ownBlock → wpList P ops Q rest (a.put o.dst (goInt (Nat.min ys.length xs.length))) w1) :
    wpList P ops Q (o :: rest) a W := by
  obtain ⟨A1, c1, hv, hl1, hr1⟩ := Kd.R_reads HO
  have hbase := Kd.R_base2 HO
  have HO' := HO
  rw [hv] at hs HO'
  by_cases h0 : Nat.min ys.length xs.length = 0
  · refine wpList_copy_nothing hgd s x t t ho e ht hs1 A1 A xs.length c1 ys.length c hs hx h0 ?_
    rw [h0] at h
    refine h W ?_ HB (grown_of_below (Below.refl _ _) _)
    have : ys.take xs.length ++ xs.drop ys.length = xs := by
      rcases Nat.eq_zero_or_pos xs.length with hz | hz
      · obtain rfl := List.length_eq_zero_iff.1 hz; simp
      · have : ys.length = 0 := by
          rcases Nat.le_total ys.length xs.length with hle | hle
          · rw [← h0]; exact (Nat.min_eq_left hle).symm
          · have : Nat.min ys.length xs.length = xs.length := Nat.min_eq_right hle
            omega
        obtain rfl := List.length_eq_zero_iff.1 this; simp
    rw [this]; exact HO
  · have hm : 0 < ys.length ∧ 0 < xs.length := by
      constructor <;> (refine Nat.pos_of_ne_zero fun hz => h0 ?_) <;> simp [hz]
    obtain ⟨inner, hown⟩ := Kd.R_own HO'
    rcases hown.2 with ⟨hn, hz⟩ | ⟨g, cap, cur, hsl, hg, hh, _⟩
    · omega
    simp only [Value.slice.injEq] at hsl
    obtain ⟨rfl, -, rfl⟩ := hsl
    obtain ⟨_, _, hread⟩ := Kd.reads_of_C (d := d) HR
    obtain ⟨ad, rfl, hcell⟩ := hread hm.1
    have hlen : ((ys.take xs.length).map enc).length = Nat.min ys.length xs.length := by rw [List.length_map, List.length_take]; exact Nat.min_comm _ _
    have hrc := R_cells (ys.take xs.length) 0 xs.length W xs HO' (by rw [List.length_take]; omega)
    have hcells : ∀ j, j < xs.length → W.cell? ⟨g, j, none⟩ = some (enc (rdOf d xs j)) ∧ W.frozen? ⟨g, j, none⟩ = false := by
      intro j hj
      have := Kd.R_celln d HO' (j : Int) (by omega) (by omega)
      rwa [Int.toNat_natCast] at this
    refine wpList_plain hgd fun K hK => ?_
    have hrun := run_copy_cells (P := P) W t t o.type e g 0 xs.length c1 ad ys.length c ((ys.take xs.length).map enc) ht hs1 hlen
      (fun j v hj => by
        rw [List.getElem?_map] at hj
        obtain ⟨y, hy, rfl⟩ := Option.map_eq_some_iff.1 hj
        obtain ⟨hj1, hy2⟩ := List.getElem?_eq_some_iff.1 hy
        rw [List.length_take] at hj1
        rw [hcell j (by omega)]
        congr 2
        rw [← hy2, List.getElem_take, List.getD_eq_getElem?_getD, List.getElem?_eq_getElem (by omega)]; rfl)
      (fun j hj => by rw [hlen] at hj; rw [Nat.zero_add, (hcells j (Nat.lt_of_lt_of_le hj (Nat.min_le_right _ _))).1]; rfl)
      (fun j hj => by rw [hlen] at hj; rw [Nat.zero_add]; exact (hcells j (Nat.lt_of_lt_of_le hj (Nat.min_le_right _ _))).2)
      (fun v hv => by obtain ⟨y, _, rfl⟩ := List.mem_map.1 hv; exact h1 y)
    unfold Oper.wp
    simp only [execOp, ho, resolve, invoke, builtin, hs, hx, List.map_toArray, List.map_cons, List.map_nil, Sem.run_bind, Sem.run_pure, Result.andThen_ok, hrun]
    rw [hlen]
    refine hK _ _ (h _ ?_ (HB.grown hrc.2 (Nat.le_of_lt (Nat.lt_of_le_of_lt hg (blk_lt hh))) (fun k hk => ?_)) ?_)
    · rw [hv]
      have := hrc.1
      simp only [List.take_zero, List.nil_append, Nat.zero_add] at this
      rw [List.length_take] at this
      by_cases hle : ys.length ≤ xs.length
      · rwa [Nat.min_eq_right hle] at this
      · rw [Nat.min_eq_left (by omega)] at this
        rw [List.drop_of_length_le (Nat.le_refl _)] at this
        rwa [List.drop_of_length_le (show xs.length ≤ ys.length by omega)]
    · have : g = k := by simpa using hk
      omega
    · rw [hv]; exact hrc.2
end
end Go.Proofs.Ytmnmidclaaiffaa.Plain
