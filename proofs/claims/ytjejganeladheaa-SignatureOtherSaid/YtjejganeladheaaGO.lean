/- Arguments opened: an array of four words; a struct of two integers. -/
import Derived.Test.YtjejganeladheaaGR
import Derived.Test.YtjejganeladheaaOP
import Derived.WalkKit
import Derived.ProofKit
import Derived.OpenShut
import Derived.Laws.IdiomArrays
import Derived.Lib.SmallJoins
namespace Go.Proofs.Ytjejganeladheaa.Dg
open Go.ChangeShapes Go.WideShapes Go.ChangeAt Go.RowKit Go.Deep

theorem w32_wf {a : Int} (h : (Lit.int .u32 a).wf = true) : 0 ≤ a ∧ a < 4294967296 := by
  have := bounds_u32 h
  omega

section
variable {H : Type} {enc : TypeId × Value → H} {P : Program} {w : World} {base : Nat} {spare : Nat → Bool} {held : Bool}
/-- An array of four words by value. -/
theorem open_arr4 {r : Reach} {b0 : Nat} {t e : TypeId} {v : Value} {d : DataW H} {p : List MemPlace} (ht : P.underlying t = some (.array 4 e)) (hC : P.cellsOf t = 4) (he : P.underlying e = some (.int .u32)) (hce : P.cellsOf e = 1)
    (hv : Value.okWide P w r b0 t v) (h : DataW.Trod enc P w base spare held t v d p) : ∃ s : St, v = dv s ∧ (0 ≤ s.1 ∧ s.1 < 4294967296) ∧ (0 ≤ s.2.1 ∧ s.2.1 < 4294967296) ∧ (0 ≤ s.2.2.1 ∧ s.2.2.1 < 4294967296) ∧ (0 ≤ s.2.2.2 ∧ s.2.2.2 < 4294967296) := by
  obtain ⟨cs, rfl, hsz, _⟩ : ∃ cs, v = .agg cs ∧ cs.size = P.cellsOf t ∧ Row.okWide P w r b0 t cs := by
    simpa [Value.okWide, ht] using hv
  rw [hC] at hsz
  obtain ⟨c0, c1, c2, c3, rfl⟩ := Joins.array4 hsz
  obtain ⟨fuel, hf⟩ := h
  obtain ⟨y0, y1, y2, y3, m, hx, hy0, hy1, hy2, hy3⟩ := trod_array4 ht hce hf
  obtain ⟨x0, e0, rfl, w0⟩ := DataW.trod_int he hy0
  obtain ⟨x1, e1, rfl, w1⟩ := DataW.trod_int he hy1
  obtain ⟨x2, e2, rfl, w2⟩ := DataW.trod_int he hy2
  obtain ⟨x3, e3, rfl, w3⟩ := DataW.trod_int he hy3
  simp at e0 e1 e2 e3
  subst e0 e1 e2 e3
  exact ⟨(x0, x1, x2, x3), rfl, w32_wf w0, w32_wf w1, w32_wf w2, w32_wf w3⟩
/-- A struct of two integers by value. -/
theorem open_two {r : Reach} {b0 : Nat} {t : TypeId} {f0 f1 : Field} {v : Value} {d : DataW H} {p : List MemPlace} (hs : P.underlying t = some (.struct #[f0, f1])) (hone : oneCellFields P #[f0, f1] = true) (hC : P.cellsOf t = 2)
    (he0 : P.underlying f0.type = some (.int .i64)) (he1 : P.underlying f1.type = some (.int .i64)) (hv : Value.okWide P w r b0 t v) (h : DataW.Trod enc P w base spare held t v d p) : ∃ a b : Int, v = .agg #[.int .i64 a, .int .i64 b] ∧ Mw.I64 a ∧ Mw.I64 b := by
  obtain ⟨v0, v1, y0, y1, n, rfl, _, _, h0, h1⟩ := Go.Joins.open_agg2 hs hone hC hv h
  obtain ⟨x0, e0, rfl, w0⟩ := DataW.trod_int he0 h0
  obtain ⟨x1, e1, rfl, w1⟩ := DataW.trod_int he1 h1
  simp at e0 e1
  subst e0 e1
  exact ⟨x0, x1, rfl, Mw.I64_of w0, Mw.I64_of w1⟩
end
end Go.Proofs.Ytjejganeladheaa.Dg
