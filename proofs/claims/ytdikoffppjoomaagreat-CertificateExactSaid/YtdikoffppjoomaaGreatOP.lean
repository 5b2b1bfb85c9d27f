/- Arguments opened: a slice of integers. -/
import Derived.Test.YtdikoffppjoomaaGreatMW
import Derived.WalkKit
import Derived.ProofKit
import Derived.OpenShut
import Derived.ChangeSlices
import Derived.Test.YtdikoffppjoomaaGreatUR
import Derived.Deep.Slices
import Derived.Deep.Strs
import Derived.Lib.SmallJoins
namespace Go.Proofs.YtdikoffppjoomaaGreat.Mw
open Go.ChangeShapes Go.WideShapes Go.ChangeAt Go.RowKit

theorem I64_of {x : Int} (h : (Lit.int .i64 x).wf = true) : I64 x := by
  have := bounds_i64 h
  unfold I64; omega

section
variable {H : Type} {enc : TypeId × Value → H} {P : Program} {w : World} {base : Nat} {spare : Nat → Bool} {held : Bool}
/-- A slice of integers. -/
theorem open_rd {t e : TypeId} {kd : IntKind} {A : Option Addr} {len cap : Nat} {d : DataW H} {p : List MemPlace} (ht : P.underlying t = some (.slice e)) (he : P.underlying e = some (.int kd)) (hc : P.cellsOf e = 1)
    (h : DataW.Trod enc P w base spare held t (.slice A len cap) d p) : ∃ z : List Int, len = z.length ∧ (z.length ≤ maxLen ∧ (∀ n ∈ z, (Lit.int kd n).wf = true) ∧ z.length ≤ cap) ∧ RdI w kd A z := by
  obtain ⟨fuel, hf⟩ := h
  rcases open_ints ht he hc hf with ⟨h0, _⟩ | ⟨a, len', cap', zs, hcs, _, hlc, hcm, hzl, _, hcell, hwf⟩
  · simp [Value.cells] at h0
    obtain ⟨rfl, rfl, rfl⟩ := h0
    exact ⟨[], rfl, ⟨by simp, by simp, by simp⟩, RdI.nil _ _ _⟩
  · simp [Value.cells] at hcs
    obtain ⟨rfl, rfl, rfl⟩ := hcs
    have hle : len ≤ zs.length := by rw [hzl]; split <;> omega
    refine ⟨zs.take len, by simp [hle], ⟨by simp; omega, fun n hn => hwf n (List.mem_of_mem_take hn), by simp; omega⟩, fun i hi => ?_⟩
    have hi' : i < len := by simp at hi; omega
    have hc0 := hcell 0 (by omega)
    have hci := hcell i (by omega)
    obtain ⟨b, off, spot⟩ := a
    have hspot : spot = none := by simpa [Addr.add] using World.cell?_spot hc0
    subst hspot
    refine ⟨b, off, rfl, World.block_lt_of_cell? w _ hc0 |> fun h => by simpa [Addr.add] using h, ?_⟩
    have e1 : (⟨b, off, none⟩ : Addr).add i = ⟨b, off + i, none⟩ := by
      unfold Addr.add
      by_cases h : i = 0
      · subst h; rfl
      · simp [h]
    rw [e1] at hci
    rw [hci]
    congr 2
    unfold gi
    rw [List.getD_eq_getElem?_getD, List.getD_eq_getElem?_getD, List.getElem?_take_of_lt hi']
end
end Go.Proofs.YtdikoffppjoomaaGreat.Mw
namespace Go.Proofs.YtdikoffppjoomaaGreat.Mw
open Go.ChangeShapes Go.WideShapes Go.ChangeAt Go.RowKit Go.Deep
set_option linter.unusedVariables false
set_option linter.unusedSimpArgs false

section
variable {H : Type} {enc : TypeId × Value → H} {P : Program} {w : World} {base : Nat} {spare : Nat → Bool} {held : Bool}
/-- A slice of values of k cells. -/
theorem open_rows {α : Type} [Inhabited α] {k : Nat} {en : α → List Value} {Good : α → Prop} {t e : TypeId} {A : Option Addr} {len cap : Nat} {d : DataW H} {p : List MemPlace} (ht : P.underlying t = some (.slice e)) (hce : P.cellsOf e = k) (hk : 0 < k)
    (one : ∀ n cs x, cs.length = k → DataW.trod enc P w base spare held n e cs = some x → ∃ s : α, Good s ∧ cs = en s)
    (h : DataW.Trod enc P w base spare held t (.slice A len cap) d p) : ∃ z : List α, len = z.length ∧ (z.length ≤ maxLen ∧ (∀ s ∈ z, Good s) ∧ z.length ≤ cap ∧ cap ≤ maxLen) ∧ RdR k en w A z := by
  obtain ⟨fuel, hf⟩ := h
  rcases open_slice ht hf with ⟨h0, _⟩ | ⟨a, len', cap', m, n, D, Pl, hcs, _, hlc, hcm, hm, _, hx⟩
  · simp [Value.cells] at h0
    obtain ⟨rfl, rfl, rfl⟩ := h0
    exact ⟨[], rfl, ⟨by simp, by simp, by simp, by simp⟩, RdR.nil _ _⟩
  · simp [Value.cells] at hcs
    obtain ⟨rfl, rfl, rfl⟩ := hcs
    have hlm : len ≤ m := by rw [hm]; split <;> omega
    have each : ∀ i, i < len → ∃ s : α, Good s ∧ ∀ j, j < k → w.cell? (a.add (i * k + j)) = (en s)[j]? := by
      intro i hi
      obtain ⟨cs', h1, h2⟩ := hx i (by omega)
      rw [hce] at h1
      obtain ⟨_, hlen, hcell⟩ := World.cells?_some h1
      obtain ⟨s, hs, rfl⟩ := one n cs' _ hlen h2
      exact ⟨s, hs, fun j hj => by have g := hcell j hj; rwa [add_add] at g⟩
    obtain ⟨q', hq'⟩ := choose_lt each
    have hkl : ∀ i, i < len → ∃ u, (en (q' i))[0]? = some u := fun i hi => by
      obtain ⟨cs', h1, h2⟩ := hx i (by omega)
      rw [hce] at h1
      obtain ⟨_, hlen, hcell⟩ := World.cells?_some h1
      have g := hcell 0 hk
      rw [add_add, (hq' i hi).2 0 hk] at g
      exact ⟨cs'[0]'(by omega), g.trans (List.getElem?_eq_getElem (by omega))⟩
    refine ⟨(List.range len).map q', by simp, ⟨by simp; omega, fun s hs => ?_, by simp; omega, hcm⟩, fun i hi => ?_⟩
    · obtain ⟨i, hi, rfl⟩ := List.mem_map.1 hs
      exact (hq' i (by simpa using hi)).1
    have hi' : i < len := by simpa using hi
    have hg : ge ((List.range len).map q') i = q' i := by unfold ge; simp [List.getElem?_range, hi']
    obtain ⟨u0, hu0⟩ := hkl 0 (by omega)
    obtain ⟨ui, hui⟩ := hkl i hi'
    have hz0 := (hq' 0 (by omega)).2 0 hk
    have hc0 := (hq' i hi').2 0 hk
    rw [hu0] at hz0
    rw [hui] at hc0
    obtain ⟨b, off, spot⟩ := a
    have hspot : spot = none := by simpa [Addr.add] using World.cell?_spot hz0
    subst hspot
    have e1 : ∀ k, (⟨b, off, none⟩ : Addr).add k = ⟨b, off + k, none⟩ := fun k => by
      unfold Addr.add
      by_cases h : k = 0
      · subst h; rfl
      · simp [h]
    refine ⟨b, off, rfl, ?_, fun j hj => ?_⟩
    · have := World.block_lt_of_cell? w _ hc0
      rw [e1] at this
      exact this
    · rw [hg]
      have := (hq' i hi').2 j hj
      rw [e1] at this
      rw [Nat.add_assoc]
      exact this
end
end Go.Proofs.YtdikoffppjoomaaGreat.Mw
