/- Words for memory: slices of values of k cells that read as lists. No program in sight. -/
import Derived.Test.YtcidpgjeddogmaaUM
namespace Go.Proofs.Ytcidpgjeddogmaa.Mw
open Go.RowKit
set_option linter.unusedVariables false
set_option linter.unusedSimpArgs false

theorem flat_len {α : Type} {k : Nat} {enc : α → List Value} (hk : ∀ a, (enc a).length = k) : ∀ l : List α, (l.flatMap enc).length = l.length * k
  | [] => by simp
  | x :: l => by rw [List.flatMap_cons, List.length_append, hk, flat_len hk l, List.length_cons, Nat.succ_mul, Nat.add_comm]
theorem flat_at {α : Type} [Inhabited α] {k : Nat} {enc : α → List Value} (hk : ∀ a, (enc a).length = k) : ∀ (l : List α) (i j : Nat), i < l.length → j < k → (l.flatMap enc)[i * k + j]? = (enc (ge l i))[j]?
  | x :: l, 0, j, _, hj => by
    rw [List.flatMap_cons, Nat.zero_mul, Nat.zero_add, List.getElem?_append_left (by rw [hk]; exact hj)]; rfl
  | x :: l, i + 1, j, hi, hj => by
    have h1 : (i + 1) * k + j = k + (i * k + j) := by rw [Nat.succ_mul]; omega
    rw [List.flatMap_cons, h1, List.getElem?_append_right (by rw [hk]; omega), hk, Nat.add_sub_cancel_left, flat_at hk l i j (by simpa using hi) hj]
    rfl
/-- A slice with address A reads as a list of values of k cells. -/
def RdR {α : Type} [Inhabited α] (k : Nat) (enc : α → List Value) (w : World) (A : Option Addr) (l : List α) : Prop :=
  ∀ i, i < l.length → ∃ b off, A = some ⟨b, off, none⟩ ∧ b < w.heap.size ∧ ∀ j, j < k → w.cell? ⟨b, off + i * k + j, none⟩ = (enc (ge l i))[j]?
section
variable {α : Type} [Inhabited α] {k : Nat} {enc : α → List Value} {w w' : World} {A : Option Addr} {l : List α}
theorem RdR.nil (w : World) (A : Option Addr) : RdR k enc w A ([] : List α) := fun _ h => absurd h (by simp)
theorem RdR.old (h : RdR k enc w A l) (hb : Below w.heap.size w w') : RdR k enc w' A l := fun i hi => by
  obtain ⟨b, off, e, hlt, hc⟩ := h i hi
  exact ⟨b, off, e, Nat.lt_of_lt_of_le hlt hb.size, fun j hj => (hb.cell (p := ⟨b, off + i * k + j, none⟩) hlt).trans (hc j hj)⟩
theorem RdR.grown {r : Nat} (h : RdR k enc w A l) (hg : w.grownBy w' (some r)) (hA : Away r A) : RdR k enc w' A l := fun i hi => by
  obtain ⟨b, off, e, hlt, hc⟩ := h i hi
  exact ⟨b, off, e, Nat.lt_of_lt_of_le hlt hg.size, fun j hj => (World.cell?_of_block (a := ⟨b, off + i * k + j, none⟩) (hg.block b hlt (by simpa using hA _ e))).trans (hc j hj)⟩
theorem RdR.alloc (h : RdR k enc w A l) (o : Obj) : RdR k enc (w.alloc o) A l := h.old ((Below.refl _ _).alloc (Nat.le_refl _) o)
theorem RdR.drew (h : RdR k enc w A l) : RdR k enc w.drew A l := h
theorem RdR.far (h : RdR k enc w A l) {p : Addr} (hA : Away p.block A) (u : Value) : RdR k enc (w.setCell p u) A l :=
  h.grown (gb_set (gb_refl w (some p.block)) (.inl rfl) u) hA
theorem RdR.own {base : Nat} {e : TypeId} {c n : Nat} (hk : ∀ a, (enc a).length = k) (h : w.ownsRow base e k (.slice A n c) n (l.flatMap enc)) (h0 : 0 < k) : RdR k enc w A l := fun i hi => by
  have hn : n = l.length := by
    have := h.1
    rw [flat_len hk] at this
    exact (Nat.eq_of_mul_eq_mul_right h0 this).symm
  obtain ⟨g, cap, hv, _, hlt⟩ := h.form (by omega)
  have hA : A = some ⟨g, 0, none⟩ := by injection hv
  subst hA
  refine ⟨g, 0, rfl, hlt, fun j hj => ?_⟩
  have hlt2 : i * k + j < n * k := by
    subst hn
    exact Nat.lt_of_lt_of_le (show i * k + j < (i + 1) * k by rw [Nat.succ_mul]; omega) (Nat.mul_le_mul_right k (by omega))
  rw [Nat.zero_add, h.cellAt (i * k + j) hlt2, flat_at hk l i j hi hj]
/-- A row of the call's own as a slice. -/
theorem own_rows {base : Nat} {e : TypeId} {v : Value} {n : Nat} (hk : ∀ a, (enc a).length = k) (h0 : 0 < k) (h : w.ownsRow base e k v n (l.flatMap enc)) : ∃ A c, v = .slice A l.length c ∧ l.length ≤ c ∧ RdR k enc w A l ∧ ∀ a, A = some a → base ≤ a.block ∧ a.block < w.heap.size := by
  have hn : n = l.length := by
    have := h.1
    rw [flat_len hk] at this
    exact (Nat.eq_of_mul_eq_mul_right h0 this).symm
  subst hn
  rcases h.2 with ⟨rfl, h1⟩ | ⟨g, cap, cur, rfl, hg, _, hc, _⟩
  · obtain rfl := List.length_eq_zero_iff.1 h1
    exact ⟨none, 0, rfl, Nat.le_refl _, RdR.nil _ _, fun a ha => by cases ha⟩
  · exact ⟨_, cap, rfl, hc, RdR.own hk h h0, fun a ha => h.lt a.block (by cases ha; rfl)⟩
theorem RdR.bk {g : Nat} {cs : Array Value} {T : TypeId} (hk : ∀ a, (enc a).length = k) (h : Bk w g T cs) (hcs : (l.flatMap enc).toArray = cs) : RdR k enc w (some ⟨g, 0, none⟩) l := by
  subst hcs
  intro i hi
  refine ⟨_, _, rfl, h.lt, fun j hj => ?_⟩
  rw [Nat.zero_add, h.cell, List.getElem?_toArray, flat_at hk l i j hi hj]
end
end Go.Proofs.Ytcidpgjeddogmaa.Mw
