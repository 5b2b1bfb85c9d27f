/- Arguments opened: a rule (four integers) and a watch (a slice of Booleans and a Boolean) by value. -/
import Derived.Test.YtpgkiiaoddhdcaaMP
import Derived.Test.YtpgkiiaoddhdcaaOB
import Derived.WalkKit
import Derived.ProofKit
import Derived.OpenShut
import Derived.Laws.IdiomArrays
import Derived.Lib.SmallJoins
namespace Go.Proofs.Ytpgkiiaoddhdcaa.Mo
open Go.ChangeShapes Go.WideShapes Go.ChangeAt Go.RowKit Go.Deep Go.Proofs.Ytpgkiiaoddhdcaa.Mw

section
variable {H : Type} {enc : TypeId × Value → H} {P : Program} {w : World} {base : Nat} {held : Bool}
/-- A rule by value. -/
theorem open_rule {r : Reach} {b0 : Nat} {t : TypeId} {f0 f1 f2 f3 : Field} {v : Value} {d : DataW H} {p : List MemPlace} (hs : P.underlying t = some (.struct #[f0, f1, f2, f3])) (hone : oneCellFields P #[f0, f1, f2, f3] = true) (hC : P.cellsOf t = 4)
    (he0 : P.underlying f0.type = some (.int .i64)) (he1 : P.underlying f1.type = some (.int .i64)) (he2 : P.underlying f2.type = some (.int .i64)) (he3 : P.underlying f3.type = some (.int .i64))
    (hv : Value.okWide P w r b0 t v) (h : DataW.Trod enc P w base (fun _ => true) held t v d p) : ∃ r : Rl, v = rv r := by
  obtain ⟨v0, v1, v2, v3, y0, y1, y2, y3, n, rfl, _, _, h0, h1, h2, h3⟩ := Go.Joins.open_agg4 hs hone hC hv h
  obtain ⟨x0, e0, rfl, w0⟩ := DataW.trod_int he0 h0
  obtain ⟨x1, e1, rfl, w1⟩ := DataW.trod_int he1 h1
  obtain ⟨x2, e2, rfl, w2⟩ := DataW.trod_int he2 h2
  obtain ⟨x3, e3, rfl, w3⟩ := DataW.trod_int he3 h3
  simp at e0 e1 e2 e3
  subst e0 e1 e2 e3
  exact ⟨⟨x0, x1, x2, x3⟩, rfl⟩
/-- A watch by value. -/
theorem open_watch {r : Reach} {b0 : Nat} {t e : TypeId} {f0 f1 : Field} {v : Value} {d : DataW H} {p : List MemPlace} (hs : P.underlying t = some (.struct #[f0, f1])) (hone : oneCellFields P #[f0, f1] = true) (hC : P.cellsOf t = 2)
    (hsl : P.underlying f0.type = some (.slice e)) (he : P.underlying e = some .bool) (hce : P.cellsOf e = 1) (hb : P.underlying f1.type = some .bool)
    (hv : Value.okWide P w r b0 t v) (h : DataW.Trod enc P w base (fun _ => true) held t v d p) : ∃ (z : List Bool) (A : Option Addr) (c : Nat) (s : Bool), v = wv A z c s ∧ z.length ≤ maxLen ∧ RdB w A z := by
  obtain ⟨v0, v1, y0, y1, n, rfl, _, _, h0, h1⟩ := Go.Joins.open_agg2 hs hone hC hv h
  obtain ⟨s, e1, rfl⟩ := DataW.trod_bool hb h1
  simp at e1
  subst e1
  have hsh : ∃ A len cap, v0 = .slice A len cap := by
    rcases open_bools hsl he hce h0 with ⟨k, _⟩ | ⟨a, len, cap, B, k, _⟩
    · simp at k; exact ⟨_, _, _, k⟩
    · simp at k; exact ⟨_, _, _, k⟩
  obtain ⟨A, len, cap, rfl⟩ := hsh
  obtain ⟨z, rfl, hz, hr⟩ := open_rdb (d := y0.1) (p := y0.2) hsl he hce ⟨n, h0⟩
  exact ⟨z, A, cap, s, rfl, hz.1, hr⟩
end
end Go.Proofs.Ytpgkiiaoddhdcaa.Mo
