/- Words for memory: slices that read as lists of Booleans. No program in sight. -/
import Derived.Test.YtpgkiiaoddhdcaaMW
namespace Go.Proofs.Ytpgkiiaoddhdcaa.Mw
open Go.RowKit
set_option linter.unusedVariables false

/-- Element number i of a list of Booleans. -/
def bi (l : List Bool) (i : Nat) : Bool := l.getD i false
theorem bi_lt (l : List Bool) (i : Nat) (h : i < l.length) : l[i]? = some (bi l i) := by
  unfold bi; rw [List.getD_eq_getElem?_getD, List.getElem?_eq_getElem h]; rfl
theorem bi_snoc (l : List Bool) (x : Bool) : bi (l ++ [x]) l.length = x := by unfold bi; simp
theorem bi_left (l m : List Bool) (i : Nat) (h : i < l.length) : bi (l ++ m) i = bi l i := by
  unfold bi; rw [List.getD_eq_getElem?_getD, List.getD_eq_getElem?_getD, List.getElem?_append_left h]
theorem bi_drop (l : List Bool) (k i : Nat) : bi (l.drop k) i = bi l (k + i) := by
  unfold bi; rw [List.getD_eq_getElem?_getD, List.getD_eq_getElem?_getD, List.getElem?_drop]
theorem bi_take (l : List Bool) (k i : Nat) (h : i < k) : bi (l.take k) i = bi l i := by
  unfold bi; rw [List.getD_eq_getElem?_getD, List.getD_eq_getElem?_getD, List.getElem?_take_of_lt h]
theorem bools_eq {a b : List Bool} (hl : a.length = b.length) (h : ∀ j, j < a.length → bi a j = bi b j) : a = b := by
  apply List.ext_getElem?
  intro i
  by_cases hi : i < a.length
  · rw [bi_lt a i hi, bi_lt b i (by omega), h i hi]
  · rw [List.getElem?_eq_none (by omega), List.getElem?_eq_none (by omega)]
/-- A slice with address A reads as a list of Booleans. -/
def RdB (w : World) (A : Option Addr) (l : List Bool) : Prop :=
  ∀ i, i < l.length → ∃ b off, A = some ⟨b, off, none⟩ ∧ b < w.heap.size ∧ w.cell? ⟨b, off + i, none⟩ = some (.bool (bi l i))
section
variable {w w' : World} {A : Option Addr} {l : List Bool}
theorem RdB.nil (w : World) (A : Option Addr) : RdB w A [] := fun _ h => absurd h (by simp)
theorem RdB.old (h : RdB w A l) (hb : Below w.heap.size w w') : RdB w' A l := fun i hi => by
  obtain ⟨b, off, e, hlt, hc⟩ := h i hi
  exact ⟨b, off, e, Nat.lt_of_lt_of_le hlt hb.size, (hb.cell (p := ⟨b, off + i, none⟩) hlt).trans hc⟩
theorem RdB.grown {r : Nat} (h : RdB w A l) (hg : w.grownBy w' (some r)) (hA : Away r A) : RdB w' A l := fun i hi => by
  obtain ⟨b, off, e, hlt, hc⟩ := h i hi
  exact ⟨b, off, e, Nat.lt_of_lt_of_le hlt hg.size, (World.cell?_of_block (a := ⟨b, off + i, none⟩) (hg.block b hlt (by simpa using hA _ e))).trans hc⟩
theorem RdB.alloc (h : RdB w A l) (o : Obj) : RdB (w.alloc o) A l := h.old ((Below.refl _ _).alloc (Nat.le_refl _) o)
theorem RdB.drewN (h : RdB w A l) (n : Nat) : RdB (w.drewN n) A l := h
theorem RdB.drew (h : RdB w A l) : RdB w.drew A l := h
theorem RdB.far (h : RdB w A l) {p : Addr} (hA : Away p.block A) (u : Value) : RdB (w.setCell p u) A l :=
  h.grown (gb_set (gb_refl w (some p.block)) (.inl rfl) u) hA
theorem RdB.own {base : Nat} {e : TypeId} {c : Nat} {n : Nat} (h : w.ownsRow base e 1 (.slice A n c) n (l.map Value.bool)) : RdB w A l := fun i hi => by
  have hn : n = l.length := by have := h.1; simpa using this.symm
  obtain ⟨g, cap, hv, _, hlt⟩ := h.form (by omega)
  have hA : A = some ⟨g, 0, none⟩ := by injection hv
  subst hA
  refine ⟨g, 0, rfl, hlt, ?_⟩
  rw [Nat.zero_add, h.cellAt i (by omega), List.getElem?_map, bi_lt l i hi]
  rfl
theorem RdB.bk {g : Nat} {cs : Array Value} {T : TypeId} (h : Bk w g T cs) (hcs : (l.map Value.bool).toArray = cs) : RdB w (some ⟨g, 0, none⟩) l := by
  subst hcs
  intro i hi
  refine ⟨_, _, rfl, h.lt, ?_⟩
  rw [Nat.zero_add, h.cell]
  simp [bi, List.getElem?_eq_getElem hi]
/-- A row of the call's own, of Booleans, as a slice. -/
theorem own_bools {base : Nat} {e : TypeId} {v : Value} {n : Nat} (h : w.ownsRow base e 1 v n (l.map Value.bool)) : ∃ A c, v = .slice A l.length c ∧ l.length ≤ c ∧ c ≤ maxLen ∧ RdB w A l ∧ ∀ a, A = some a → base ≤ a.block ∧ a.block < w.heap.size := by
  have hn : n = l.length := by have := h.1; simpa using this.symm
  subst hn
  rcases h.2 with ⟨rfl, h0⟩ | ⟨g, cap, cur, rfl, hg, _, hnc, hcm, _⟩
  · obtain rfl := List.length_eq_zero_iff.1 h0
    exact ⟨none, 0, rfl, by simp, by simp, RdB.nil _ _, fun a ha => by cases ha⟩
  · exact ⟨_, cap, rfl, hnc, hcm, RdB.own h, fun a ha => h.lt a.block (by cases ha; rfl)⟩
/-- The cells of such a slice, for append. -/
theorem RdB.news {a : Addr} (h : RdB w (some a) l) : ∀ j u, (l.map Value.bool)[j]? = some u → w.cell? (a.add j) = some u := by
  intro j u hu
  have hj : j < l.length := by
    rcases Nat.lt_or_ge j l.length with h1 | h1
    · exact h1
    · rw [List.getElem?_eq_none (by simpa using h1)] at hu; cases hu
  obtain ⟨b, off, e, _, hc⟩ := h j hj
  cases e
  rw [List.getElem?_map, bi_lt l j hj] at hu
  injection hu with hu
  have : (⟨b, off, none⟩ : Addr).add j = ⟨b, off + j, none⟩ := by
    unfold Addr.add
    by_cases h0 : j = 0
    · subst h0; rfl
    · simp [h0]
  rw [this, hc, ← hu]
theorem RdB.none_nil (h : RdB w none l) : l = [] := by
  rcases Nat.eq_zero_or_pos l.length with h0 | h0
  · exact List.length_eq_zero_iff.1 h0
  · obtain ⟨_, _, e, _⟩ := h 0 h0; cases e
theorem RdB.tail {b off : Nat} (h : RdB w (some ⟨b, off, none⟩) l) : RdB w (some ⟨b, off + 1, none⟩) (l.drop 1) := fun i hi => by
  have hi' : i + 1 < l.length := by simp at hi; omega
  obtain ⟨b', off', e, hlt, hc⟩ := h (i + 1) hi'
  cases e
  refine ⟨b, off + 1, rfl, hlt, ?_⟩
  rw [bi_drop, Nat.add_comm 1 i, show off + 1 + i = off + (i + 1) by omega]
  exact hc
theorem ones_bool (l : List Bool) : ∀ u ∈ l.map Value.bool, u.oneCell' = true := by
  intro u hu
  obtain ⟨b, _, rfl⟩ := List.mem_map.1 hu
  rfl
end
end Go.Proofs.Ytpgkiiaoddhdcaa.Mw
