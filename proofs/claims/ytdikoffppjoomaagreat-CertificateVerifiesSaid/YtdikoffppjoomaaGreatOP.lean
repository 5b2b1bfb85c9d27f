/- Arguments opened: a slice of integers. -/
import Derived.Test.YtdikoffppjoomaaGreatMW
import Derived.WalkKit
import Derived.ProofKit
import Derived.OpenShut
import Derived.ChangeSlices
namespace Go.Proofs.YtdikoffppjoomaaGreat.Mw
open Go.ChangeShapes Go.WideShapes Go.ChangeAt Go.RowKit

theorem I64_of {x : Int} (h : (Lit.int .i64 x).wf = true) : I64 x := by
  have := bounds_i64 h
  unfold I64; omega

section
variable {H : Type} {enc : TypeId × Value → H} {P : Program} {w : World} {base : Nat} {spare : Nat → Bool} {held : Bool}
/-- A slice of integers. -/
theorem open_rd {t e : TypeId} {kd : IntKind} {A : Option Addr} {len cap : Nat} {d : DataW H} {p : List MemPlace} (ht : P.underlying t = some (.slice e)) (he : P.underlying e = some (.int kd)) (hc : P.cellsOf e = 1)
    (h : DataW.Trod enc P w base spare held t (.slice A len cap) d p) : ∃ z : List Int, len = z.length ∧ (z.length ≤ maxLen ∧ (∀ n ∈ z, (Lit.int kd n).wf = true) ∧ z.length ≤ cap) ∧ RdI w kd A z := by
  obtain ⟨fuel, hf⟩ := h
  rcases open_ints ht he hc hf with ⟨h0, _⟩ | ⟨a, len', cap', zs, hcs, _, hlc, hcm, hzl, _, hcell, hwf⟩
  · simp [Value.cells] at h0
    obtain ⟨rfl, rfl, rfl⟩ := h0
    exact ⟨[], rfl, ⟨by simp, by simp, by simp⟩, RdI.nil _ _ _⟩
  · simp [Value.cells] at hcs
    obtain ⟨rfl, rfl, rfl⟩ := hcs
    have hle : len ≤ zs.length := by rw [hzl]; split <;> omega
    refine ⟨zs.take len, by simp [hle], ⟨by simp; omega, fun n hn => hwf n (List.mem_of_mem_take hn), by simp; omega⟩, fun i hi => ?_⟩
    have hi' : i < len := by simp at hi; omega
    have hc0 := hcell 0 (by omega)
    have hci := hcell i (by omega)
    obtain ⟨b, off, spot⟩ := a
    have hspot : spot = none := by simpa [Addr.add] using World.cell?_spot hc0
    subst hspot
    refine ⟨b, off, rfl, World.block_lt_of_cell? w _ hc0 |> fun h => by simpa [Addr.add] using h, ?_⟩
    have e1 : (⟨b, off, none⟩ : Addr).add i = ⟨b, off + i, none⟩ := by
      unfold Addr.add
      by_cases h : i = 0
      · subst h; rfl
      · simp [h]
    rw [e1] at hci
    rw [hci]
    congr 2
    unfold gi
    rw [List.getD_eq_getElem?_getD, List.getD_eq_getElem?_getD, List.getElem?_take_of_lt hi']
end
end Go.Proofs.YtdikoffppjoomaaGreat.Mw
