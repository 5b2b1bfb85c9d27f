/- Arguments opened: a slice whose elements take k cells each. -/
import Derived.Test.YtcidpgjeddogmaaUR
import Derived.Test.YtcidpgjeddogmaaOP
import Derived.WalkKit
import Derived.ProofKit
import Derived.OpenShut
import Derived.Deep.Slices
import Derived.Deep.Strs
import Derived.Lib.SmallJoins
namespace Go.Proofs.Ytcidpgjeddogmaa.Mw
open Go.ChangeShapes Go.WideShapes Go.ChangeAt Go.RowKit Go.Deep
set_option linter.unusedVariables false
set_option linter.unusedSimpArgs false

section
variable {H : Type} {enc : TypeId × Value → H} {P : Program} {w : World} {base : Nat} {spare : Nat → Bool} {held : Bool}
/-- A slice of values of k cells. -/
theorem open_rows {α : Type} [Inhabited α] {k : Nat} {en : α → List Value} {Good : α → Prop} {t e : TypeId} {A : Option Addr} {len cap : Nat} {d : DataW H} {p : List MemPlace} (ht : P.underlying t = some (.slice e)) (hce : P.cellsOf e = k) (hk : 0 < k)
    (one : ∀ n cs x, cs.length = k → DataW.trod enc P w base spare held n e cs = some x → ∃ s : α, Good s ∧ cs = en s)
    (h : DataW.Trod enc P w base spare held t (.slice A len cap) d p) : ∃ z : List α, len = z.length ∧ (z.length ≤ maxLen ∧ (∀ s ∈ z, Good s) ∧ z.length ≤ cap ∧ cap ≤ maxLen) ∧ RdR k en w A z := by
  obtain ⟨fuel, hf⟩ := h
  rcases open_slice ht hf with ⟨h0, _⟩ | ⟨a, len', cap', m, n, D, Pl, hcs, _, hlc, hcm, hm, _, hx⟩
  · simp [Value.cells] at h0
    obtain ⟨rfl, rfl, rfl⟩ := h0
    exact ⟨[], rfl, ⟨by simp, by simp, by simp, by simp⟩, RdR.nil _ _⟩
  · simp [Value.cells] at hcs
    obtain ⟨rfl, rfl, rfl⟩ := hcs
    have hlm : len ≤ m := by rw [hm]; split <;> omega
    have each : ∀ i, i < len → ∃ s : α, Good s ∧ ∀ j, j < k → w.cell? (a.add (i * k + j)) = (en s)[j]? := by
      intro i hi
      obtain ⟨cs', h1, h2⟩ := hx i (by omega)
      rw [hce] at h1
      obtain ⟨_, hlen, hcell⟩ := World.cells?_some h1
      obtain ⟨s, hs, rfl⟩ := one n cs' _ hlen h2
      exact ⟨s, hs, fun j hj => by have g := hcell j hj; rwa [add_add] at g⟩
    obtain ⟨q', hq'⟩ := choose_lt each
    have hkl : ∀ i, i < len → ∃ u, (en (q' i))[0]? = some u := fun i hi => by
      obtain ⟨cs', h1, h2⟩ := hx i (by omega)
      rw [hce] at h1
      obtain ⟨_, hlen, hcell⟩ := World.cells?_some h1
      have g := hcell 0 hk
      rw [add_add, (hq' i hi).2 0 hk] at g
      exact ⟨cs'[0]'(by omega), g.trans (List.getElem?_eq_getElem (by omega))⟩
    refine ⟨(List.range len).map q', by simp, ⟨by simp; omega, fun s hs => ?_, by simp; omega, hcm⟩, fun i hi => ?_⟩
    · obtain ⟨i, hi, rfl⟩ := List.mem_map.1 hs
      exact (hq' i (by simpa using hi)).1
    have hi' : i < len := by simpa using hi
    have hg : ge ((List.range len).map q') i = q' i := by unfold ge; simp [List.getElem?_range, hi']
    obtain ⟨u0, hu0⟩ := hkl 0 (by omega)
    obtain ⟨ui, hui⟩ := hkl i hi'
    have hz0 := (hq' 0 (by omega)).2 0 hk
    have hc0 := (hq' i hi').2 0 hk
    rw [hu0] at hz0
    rw [hui] at hc0
    obtain ⟨b, off, spot⟩ := a
    have hspot : spot = none := by simpa [Addr.add] using World.cell?_spot hz0
    subst hspot
    have e1 : ∀ k, (⟨b, off, none⟩ : Addr).add k = ⟨b, off + k, none⟩ := fun k => by
      unfold Addr.add
      by_cases h : k = 0
      · subst h; rfl
      · simp [h]
    refine ⟨b, off, rfl, ?_, fun j hj => ?_⟩
    · have := World.block_lt_of_cell? w _ hc0
      rw [e1] at this
      exact this
    · rw [hg]
      have := (hq' i hi').2 j hj
      rw [e1] at this
      rw [Nat.add_assoc]
      exact this
end
end Go.Proofs.Ytcidpgjeddogmaa.Mw
