/- Arguments opened: an array of four words; a slice of integers. -/
import Derived.Test.YtoiipifoehfcdaaDP
import Derived.WalkKit
import Derived.ProofKit
import Derived.OpenShut
import Derived.Laws.IdiomArrays
import Derived.Lib.SmallJoins
namespace Go.Proofs.Ytoiipifoehfcdaa.Dg
open Go.ChangeShapes Go.WideShapes Go.ChangeAt Go.RowKit

theorem W32_of_wf {a : Int} (h : (Lit.int .u32 a).wf = true) : W32 a := by
  have := bounds_u32 h
  unfold W32; omega

section
variable {H : Type} {enc : TypeId × Value → H} {P : Program} {w : World} {base : Nat} {spare : Nat → Bool} {held : Bool}
/-- An array of four words by value. -/
theorem open_arr4 {r : Reach} {b0 : Nat} {t e : TypeId} {v : Value} {d : DataW H} {p : List MemPlace} (ht : P.underlying t = some (.array 4 e)) (hC : P.cellsOf t = 4) (he : P.underlying e = some (.int .u32)) (hce : P.cellsOf e = 1)
    (hv : Value.okWide P w r b0 t v) (h : DataW.Trod enc P w base spare held t v d p) : ∃ s : St, v = dv s ∧ W4 s := by
  obtain ⟨cs, rfl, hsz, _⟩ : ∃ cs, v = .agg cs ∧ cs.size = P.cellsOf t ∧ Row.okWide P w r b0 t cs := by
    simpa [Value.okWide, ht] using hv
  rw [hC] at hsz
  obtain ⟨c0, c1, c2, c3, rfl⟩ := Joins.array4 hsz
  obtain ⟨fuel, hf⟩ := h
  obtain ⟨y0, y1, y2, y3, m, hx, hy0, hy1, hy2, hy3⟩ := trod_array4 ht hce hf
  obtain ⟨x0, e0, rfl, w0⟩ := DataW.trod_int he hy0
  obtain ⟨x1, e1, rfl, w1⟩ := DataW.trod_int he hy1
  obtain ⟨x2, e2, rfl, w2⟩ := DataW.trod_int he hy2
  obtain ⟨x3, e3, rfl, w3⟩ := DataW.trod_int he hy3
  simp at e0 e1 e2 e3
  subst e0 e1 e2 e3
  exact ⟨(x0, x1, x2, x3), rfl, W32_of_wf w0, W32_of_wf w1, W32_of_wf w2, W32_of_wf w3⟩
end
end Go.Proofs.Ytoiipifoehfcdaa.Dg
