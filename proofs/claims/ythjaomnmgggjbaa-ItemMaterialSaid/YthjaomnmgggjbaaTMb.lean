/- Words for memory: one part of a slice of parts set. No program in sight. -/
import Derived.Test.YthjaomnmgggjbaaTA
namespace Go.Proofs.Ythjaomnmgggjbaa.Tm
open Go.RowKit Go.Proofs.Ythjaomnmgggjbaa.Mw
set_option linter.unusedVariables false

/-- A world with six cells in a row set. -/
def set6 (w : World) (g o : Nat) (p : Pt) : World := (((((w.setCell ⟨g, o, none⟩ (.int .i64 p.k)).setCell ⟨g, o + 1, none⟩ (.int .i64 p.m)).setCell ⟨g, o + 2, none⟩ (.int .i64 p.t)).setCell ⟨g, o + 3, none⟩ (.int .i64 p.o)).setCell ⟨g, o + 4, none⟩ (.int .i64 p.n)).setCell ⟨g, o + 5, none⟩ (.int .i64 p.y)
theorem set6_eq (w : World) (g o : Nat) (p : Pt) : ((((((w.setCell ⟨g, o, none⟩ (.int .i64 p.k)).setCell ⟨g, o + 1, none⟩ (.int .i64 p.m)).setCell ⟨g, o + 2, none⟩ (.int .i64 p.t)).setCell ⟨g, o + 3, none⟩ (.int .i64 p.o)).setCell ⟨g, o + 4, none⟩ (.int .i64 p.n)).setCell ⟨g, o + 5, none⟩ (.int .i64 p.y)) = set6 w g o p := rfl
theorem set6_grown (w : World) (g o : Nat) (p : Pt) : w.grownBy (set6 w g o p) (some g) := by
  unfold set6
  have S : ∀ (a b : World) (k : Nat) (v : Value), a.grownBy b (some g) → a.grownBy (b.setCell ⟨g, k, none⟩ v) (some g) := fun a b k v h => gb_set h (p := ⟨g, k, none⟩) (Or.inl rfl) v
  exact S _ _ _ _ (S _ _ _ _ (S _ _ _ _ (S _ _ _ _ (S _ _ _ _ (S _ _ _ _ (gb_refl _ _))))))
theorem cell_ex {w : World} {a k : Addr} (v : Value) (h : ∃ u, w.cell? k = some u) : ∃ u, (w.setCell a v).cell? k = some u := by
  obtain ⟨u, hu⟩ := h
  by_cases e : a = k
  · subst e; exact ⟨v, World.cell?_setCell_same _ _ _ hu⟩
  · exact ⟨u, (World.cell?_setCell_other _ _ _ _ e).trans hu⟩
theorem cell_same' {w : World} {a : Addr} (v : Value) (h : ∃ u, w.cell? a = some u) : (w.setCell a v).cell? a = some v := by
  obtain ⟨u, hu⟩ := h
  exact World.cell?_setCell_same _ _ _ hu
theorem set6_at (w : World) (g o : Nat) (p : Pt) (h : ∀ j, j < 6 → ∃ v, w.cell? ⟨g, o + j, none⟩ = some v) :
    (∀ j v, (pl p)[j]? = some v → (set6 w g o p).cell? ⟨g, o + j, none⟩ = some v) ∧ ∀ k, (k < o ∨ o + 6 ≤ k) → (set6 w g o p).cell? ⟨g, k, none⟩ = w.cell? ⟨g, k, none⟩ := by
  have ne : ∀ i j : Nat, i ≠ j → (⟨g, i, none⟩ : Addr) ≠ ⟨g, j, none⟩ := fun i j hij he => hij (congrArg Addr.off he)
  have h0 := h 0 (by omega)
  have h1 := h 1 (by omega)
  have h2 := h 2 (by omega)
  have h3 := h 3 (by omega)
  have h4 := h 4 (by omega)
  have h5 := h 5 (by omega)
  unfold set6
  constructor
  · intro j v hv
    have hj : j = 0 ∨ j = 1 ∨ j = 2 ∨ j = 3 ∨ j = 4 ∨ j = 5 := by
      rcases Nat.lt_or_ge j 6 with h | h
      · omega
      · rw [List.getElem?_eq_none (by simpa [pl] using h)] at hv; cases hv
    have O : ∀ (w : World) (i j : Nat) (v : Value), i ≠ j → (w.setCell ⟨g, i, none⟩ v).cell? ⟨g, j, none⟩ = w.cell? ⟨g, j, none⟩ := fun w i j v hij => World.cell?_setCell_other _ _ _ _ (ne _ _ hij)
    rcases hj with rfl | rfl | rfl | rfl | rfl | rfl <;> simp only [pl, List.getElem?_cons_zero, List.getElem?_cons_succ, Option.some.injEq] at hv <;> subst hv
    · rw [O _ (o + 5) (o + 0) _ (by omega), O _ (o + 4) (o + 0) _ (by omega), O _ (o + 3) (o + 0) _ (by omega), O _ (o + 2) (o + 0) _ (by omega), O _ (o + 1) (o + 0) _ (by omega)]
      exact cell_same' _ h0
    · rw [O _ (o + 5) (o + 1) _ (by omega), O _ (o + 4) (o + 1) _ (by omega), O _ (o + 3) (o + 1) _ (by omega), O _ (o + 2) (o + 1) _ (by omega)]
      exact cell_same' _ (cell_ex _ h1)
    · rw [O _ (o + 5) (o + 2) _ (by omega), O _ (o + 4) (o + 2) _ (by omega), O _ (o + 3) (o + 2) _ (by omega)]
      exact cell_same' _ (cell_ex _ (cell_ex _ h2))
    · rw [O _ (o + 5) (o + 3) _ (by omega), O _ (o + 4) (o + 3) _ (by omega)]
      exact cell_same' _ (cell_ex _ (cell_ex _ (cell_ex _ h3)))
    · rw [O _ (o + 5) (o + 4) _ (by omega)]
      exact cell_same' _ (cell_ex _ (cell_ex _ (cell_ex _ (cell_ex _ h4))))
    · exact cell_same' _ (cell_ex _ (cell_ex _ (cell_ex _ (cell_ex _ (cell_ex _ h5)))))
  · intro k hk
    rw [World.cell?_setCell_other _ _ _ _ (ne _ _ (by omega)), World.cell?_setCell_other _ _ _ _ (ne _ _ (by omega)), World.cell?_setCell_other _ _ _ _ (ne _ _ (by omega)), World.cell?_setCell_other _ _ _ _ (ne _ _ (by omega)), World.cell?_setCell_other _ _ _ _ (ne _ _ (by omega)), World.cell?_setCell_other _ _ _ _ (ne _ _ (by omega))]
theorem rdp_set {w : World} {g : Nat} {l : List Pt} (p : Pt) (h : RdP w (some ⟨g, 0, none⟩) l) (n : Nat) (hn : n < l.length) : ∃ l' : List Pt, l'.length = l.length ∧ RdP (set6 w g (n * 6) p) (some ⟨g, 0, none⟩) l' := by
  obtain ⟨_, _, e, _, hcn⟩ := h n hn
  cases e
  obtain ⟨S1, S2⟩ := set6_at w g (n * 6) p (fun j hj => by
    have hlt : j < (pl (gp l n)).length := by rw [pl_len]; exact hj
    have := hcn j _ (List.getElem?_eq_getElem hlt)
    rw [Nat.zero_add] at this
    exact ⟨_, this⟩)
  refine ⟨l.set n p, by simp, fun i hi => ?_⟩
  have hi' : i < l.length := by simpa using hi
  obtain ⟨b, off, e, hlt, hc⟩ := h i hi'
  cases e
  refine ⟨g, 0, rfl, Nat.lt_of_lt_of_le hlt (set6_grown w g (n * 6) p).size, fun j v hv => ?_⟩
  have hj : j < 6 := by
    rcases Nat.lt_or_ge j 6 with h | h
    · exact h
    · rw [List.getElem?_eq_none (by rw [pl_len]; exact h)] at hv; cases hv
  rw [Nat.zero_add]
  by_cases hin : i = n
  · subst hin
    have hg : gp (l.set i p) i = p := by unfold gp; simp [hi']
    rw [hg] at hv
    exact S1 j v hv
  · have hg : gp (l.set n p) i = gp l i := by unfold gp; simp [List.getElem?_set, show ¬ n = i from fun e => hin e.symm]
    rw [hg] at hv
    rw [S2 _ (by omega)]
    have := hc j v hv
    rwa [Nat.zero_add] at this
end Go.Proofs.Ythjaomnmgggjbaa.Tm
