/- Arguments opened: a slice of Booleans. -/
import Derived.Test.YtpgkiiaoddhdcaaMB
import Derived.Test.YtpgkiiaoddhdcaaOP
import Derived.Deep.Grids
namespace Go.Proofs.Ytpgkiiaoddhdcaa.Mw
open Go.ChangeShapes Go.WideShapes Go.ChangeAt Go.RowKit Go.Deep

section
variable {H : Type} {enc : TypeId × Value → H} {P : Program} {w : World} {base : Nat} {held : Bool}
/-- A slice of Booleans. -/
theorem open_rdb {t e : TypeId} {A : Option Addr} {len cap : Nat} {d : DataW H} {p : List MemPlace} (ht : P.underlying t = some (.slice e)) (he : P.underlying e = some .bool) (hc : P.cellsOf e = 1)
    (h : DataW.Trod enc P w base (fun _ => true) held t (.slice A len cap) d p) : ∃ z : List Bool, len = z.length ∧ (z.length ≤ maxLen ∧ z.length ≤ cap) ∧ RdB w A z := by
  obtain ⟨fuel, hf⟩ := h
  rcases open_bools ht he hc hf with ⟨h0, _⟩ | ⟨a, len', cap', B, hcs, _, hlc, hcm, _, hcell⟩
  · simp [Value.cells] at h0
    obtain ⟨rfl, rfl, rfl⟩ := h0
    exact ⟨[], rfl, ⟨by simp, by simp⟩, RdB.nil _ _⟩
  · simp [Value.cells] at hcs
    obtain ⟨rfl, rfl, rfl⟩ := hcs
    refine ⟨(List.range len).map B, by simp, ⟨by simp; omega, by simpa using hlc⟩, fun i hi => ?_⟩
    have hi' : i < len := by simpa using hi
    have hc0 := hcell 0 (by omega)
    have hci := hcell i (by omega)
    obtain ⟨b, off, spot⟩ := a
    have hspot : spot = none := by simpa [Addr.add] using World.cell?_spot hc0
    subst hspot
    refine ⟨b, off, rfl, World.block_lt_of_cell? w _ hc0 |> fun h => by simpa [Addr.add] using h, ?_⟩
    have e1 : (⟨b, off, none⟩ : Addr).add i = ⟨b, off + i, none⟩ := by
      unfold Addr.add
      by_cases h : i = 0
      · subst h; rfl
      · simp [h]
    rw [e1] at hci
    rw [hci]
    simp [bi, hi']
end
end Go.Proofs.Ytpgkiiaoddhdcaa.Mw
