/- Words for memory: slices that read as lists of digests. No program in sight. -/
import Derived.Test.YtdikoffppjoomaaGreatRA
import Derived.Test.YtdikoffppjoomaaGreatMW
import Derived.Deep.AppendLies
namespace Go.Proofs.YtdikoffppjoomaaGreat.Tr
open Go.RowKit Go.Proofs.YtdikoffppjoomaaGreat.Dg Go.Proofs.YtdikoffppjoomaaGreat.Mw
set_option linter.unusedVariables false
set_option linter.unusedSimpArgs false

/-- The cells of a digest. -/
def dl (d : St) : List Value := [.int .u32 d.1, .int .u32 d.2.1, .int .u32 d.2.2.1, .int .u32 d.2.2.2]
/-- A slice with address A reads as a list of digests. -/
def RdD (w : World) (A : Option Addr) (l : List St) : Prop :=
  ∀ i, i < l.length → ∃ b off, A = some ⟨b, off, none⟩ ∧ b < w.heap.size ∧ ∀ j v, (dl (gd l i))[j]? = some v → w.cell? ⟨b, off + i * 4 + j, none⟩ = some v
section
variable {w w' : World} {A : Option Addr} {l : List St}
theorem RdD.nil (w : World) (A : Option Addr) : RdD w A [] := fun _ h => absurd h (by simp)
theorem RdD.at (h : RdD w A l) (i : Nat) (hi : i < l.length) : ∃ b off, A = some ⟨b, off, none⟩ ∧ b < w.heap.size ∧ w.cell? ⟨b, off + i * 4, none⟩ = some (.int .u32 (gd l i).1) ∧ w.cell? ⟨b, off + i * 4 + 1, none⟩ = some (.int .u32 (gd l i).2.1) ∧ w.cell? ⟨b, off + i * 4 + 2, none⟩ = some (.int .u32 (gd l i).2.2.1) ∧ w.cell? ⟨b, off + i * 4 + 3, none⟩ = some (.int .u32 (gd l i).2.2.2) := by
  obtain ⟨b, off, e, hb, hc⟩ := h i hi
  exact ⟨b, off, e, hb, hc 0 _ rfl, hc 1 _ rfl, hc 2 _ rfl, hc 3 _ rfl⟩
theorem RdD.old (h : RdD w A l) (hb : Below w.heap.size w w') : RdD w' A l := fun i hi => by
  obtain ⟨b, off, e, hlt, hc⟩ := h i hi
  exact ⟨b, off, e, Nat.lt_of_lt_of_le hlt hb.size, fun j v hv => (hb.cell (p := ⟨b, off + i * 4 + j, none⟩) hlt).trans (hc j v hv)⟩
theorem RdD.grown {r : Nat} (h : RdD w A l) (hg : w.grownBy w' (some r)) (hA : Away r A) : RdD w' A l := fun i hi => by
  obtain ⟨b, off, e, hlt, hc⟩ := h i hi
  exact ⟨b, off, e, Nat.lt_of_lt_of_le hlt hg.size, fun j v hv => (World.cell?_of_block (a := ⟨b, off + i * 4 + j, none⟩) (hg.block b hlt (by simpa using hA _ e))).trans (hc j v hv)⟩
theorem RdD.alloc (h : RdD w A l) (o : Obj) : RdD (w.alloc o) A l := h.old ((Below.refl _ _).alloc (Nat.le_refl _) o)
theorem RdD.drewN (h : RdD w A l) (n : Nat) : RdD (w.drewN n) A l := h
theorem RdD.drew (h : RdD w A l) : RdD w.drew A l := h
theorem RdD.far (h : RdD w A l) {p : Addr} (hA : Away p.block A) (u : Value) : RdD (w.setCell p u) A l :=
  h.grown (gb_set (gb_refl w (some p.block)) (.inl rfl) u) hA
theorem RdD.take (h : RdD w A l) (k : Nat) : RdD w A (l.take k) := fun i hi => by
  have hi' : i < k ∧ i < l.length := by simp at hi; omega
  obtain ⟨b, off, e, hlt, hc⟩ := h i hi'.2
  exact ⟨b, off, e, hlt, by rw [gd_take _ _ _ hi'.1]; exact hc⟩
theorem RdD.drop {b off : Nat} (h : RdD w (some ⟨b, off, none⟩) l) (k : Nat) : RdD w (some ⟨b, off + k * 4, none⟩) (l.drop k) := fun i hi => by
  have hi' : k + i < l.length := by simp at hi; omega
  obtain ⟨b', off', e, hlt, hc⟩ := h (k + i) hi'
  cases e
  refine ⟨b, off + k * 4, rfl, hlt, ?_⟩
  rw [gd_drop, show off + k * 4 + i * 4 = off + (k + i) * 4 by omega]
  exact hc
theorem add_at (g n : Nat) : (⟨g, 0, none⟩ : Addr).add n = ⟨g, n, none⟩ := by
  unfold Addr.add
  by_cases h : n = 0
  · subst h; rfl
  · simp [h]
theorem flat_len (l : List St) : (l.flatMap dl).length = l.length * 4 := by
  induction l with
  | nil => rfl
  | cons d l ih => rw [List.flatMap_cons, List.length_append, ih]; simp [dl]; omega
theorem flat_at : ∀ (l : List St) (i j : Nat) (v : Value), i < l.length → (dl (gd l i))[j]? = some v → (l.flatMap dl)[i * 4 + j]? = some v
  | d :: l, 0, j, v, _, h => by
    have hj : j < (dl d).length := by
      rcases Nat.lt_or_ge j (dl d).length with h1 | h1
      · exact h1
      · have h2 : (dl (gd (d :: l) 0))[j]? = none := List.getElem?_eq_none h1
        rw [h2] at h; cases h
    rw [List.flatMap_cons, Nat.zero_mul, Nat.zero_add, List.getElem?_append_left hj]
    exact h
  | d :: l, i + 1, j, v, hi, h => by
    have ih := flat_at l i j v (by simpa using hi) (by simpa [gd] using h)
    rw [List.flatMap_cons, List.getElem?_append_right (by simp [dl]; omega)]
    have e : (i + 1) * 4 + j - (dl d).length = i * 4 + j := by simp [dl]; omega
    rw [e]; exact ih
theorem RdD.own {base : Nat} {e : TypeId} {c n : Nat} (h : w.ownsRow base e 4 (.slice A n c) n (l.flatMap dl)) : RdD w A l := fun i hi => by
  have hn : n = l.length := by have := h.1; rw [flat_len] at this; omega
  obtain ⟨g, cap, hv, _, hlt⟩ := h.form (by omega)
  have hA : A = some ⟨g, 0, none⟩ := by injection hv
  subst hA
  refine ⟨g, 0, rfl, hlt, fun j v hv => ?_⟩
  have h1 := h.cells (g := g) rfl (i * 4 + j) v (flat_at l i j v hi hv)
  rw [add_at] at h1
  rwa [Nat.zero_add]
theorem RdD.bk {g : Nat} {cs : Array Value} {T : TypeId} (h : Bk w g T cs) (hcs : (l.flatMap dl).toArray = cs) : RdD w (some ⟨g, 0, none⟩) l := fun i hi => by
  subst hcs
  refine ⟨g, 0, rfl, h.lt, fun j v hv => ?_⟩
  rw [Nat.zero_add, h.cell, List.getElem?_toArray]
  exact flat_at l i j v hi hv
/-- A row of the call's own, of digests, as a slice. -/
theorem own_digs {base : Nat} {e : TypeId} {v : Value} {n : Nat} (h : w.ownsRow base e 4 v n (l.flatMap dl)) : ∃ A c, v = .slice A l.length c ∧ l.length ≤ c ∧ c ≤ maxLen ∧ RdD w A l ∧ ∀ a, A = some a → base ≤ a.block ∧ a.block < w.heap.size := by
  have hn : n = l.length := by have := h.1; rw [flat_len] at this; omega
  subst hn
  rcases h.2 with ⟨rfl, h0⟩ | ⟨g, cap, cur, rfl, hg, _, hnc, hcm, _⟩
  · obtain rfl := List.length_eq_zero_iff.1 h0
    exact ⟨none, 0, rfl, by simp, by simp, RdD.nil _ _, fun a ha => by cases ha⟩
  · exact ⟨_, cap, rfl, hnc, hcm, RdD.own h, fun a ha => h.lt a.block (by cases ha; rfl)⟩
theorem ones_dig (l : List St) : ∀ u ∈ l.flatMap dl, u.oneCell' = true := by
  intro u hu
  obtain ⟨d, _, hd⟩ := List.mem_flatMap.1 hu
  simp [dl] at hd
  rcases hd with rfl | rfl | rfl | rfl <;> rfl
theorem one_dig (d : St) : ∀ u ∈ dl d, u.oneCell' = true := by
  intro u hd
  simp [dl] at hd
  rcases hd with rfl | rfl | rfl | rfl <;> rfl
theorem news_dig {g : Nat} {T : TypeId} (d : St) (h : Bk w g T #[.int .u32 d.1, .int .u32 d.2.1, .int .u32 d.2.2.1, .int .u32 d.2.2.2]) : ∀ j u, (dl d)[j]? = some u → w.cell? ((⟨g, 0, none⟩ : Addr).add j) = some u := World.news_of_block h
theorem none_nil (h : RdD w none l) : l = [] := by
  rcases Nat.eq_zero_or_pos l.length with h0 | h0
  · exact List.length_eq_zero_iff.1 h0
  · obtain ⟨_, _, e, _⟩ := h 0 h0; cases e
end
end Go.Proofs.YtdikoffppjoomaaGreat.Tr
