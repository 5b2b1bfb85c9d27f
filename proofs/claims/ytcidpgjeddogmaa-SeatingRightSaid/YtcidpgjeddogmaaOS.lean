/- Arguments opened: a slice of places. -/
import Derived.Test.YtcidpgjeddogmaaWY
import Derived.Test.YtcidpgjeddogmaaOR
namespace Go.Proofs.Ytcidpgjeddogmaa.Pl
open Go.ChangeShapes Go.WideShapes Go.ChangeAt Go.RowKit Go.Deep
open Go.Proofs.Ytcidpgjeddogmaa.Mw
open Go.Proofs.Ytcidpgjeddogmaa.St
set_option linter.unusedVariables false
set_option linter.unusedSimpArgs false

section
variable {H : Type} {enc : TypeId × Value → H} {w : World} {base : Nat} {spare : Nat → Bool} {held : Bool}
theorem one_place (n : Nat) (cs : List Value) (x : DataW H × List MemPlace) (hl : cs.length = 5) (h : DataW.trod enc Try.prog w base spare held n 52 cs = some x) : ∃ s : Pc, PcI s ∧ cs = pcl s := by
  match cs, hl with
  | [v0, v1, v2, v3, v4], _ =>
    obtain ⟨y0, y1, y2, n1, _, _, h0, h1, h2⟩ := trod_struct3 Try.underlying52 h
    obtain ⟨z0, z1, z2, n2, _, _, g0, g1, g2⟩ := trod_struct3 Try.underlying50 h1
    obtain ⟨x0, e0, _, w0⟩ := DataW.trod_int Try.underlying3 h0
    obtain ⟨x1, e1, _, w1⟩ := DataW.trod_int Try.underlying3 g0
    obtain ⟨x2, e2, _, w2⟩ := DataW.trod_int Try.underlying3 g1
    obtain ⟨x3, e3, _, w3⟩ := DataW.trod_int Try.underlying3 g2
    obtain ⟨x4, e4, _, w4⟩ := DataW.trod_int Try.underlying3 h2
    have hi : Try.prog.cellsOf 3 = 1 := by kernel_rfl
    have hs : Try.prog.cellsOf 50 = 3 := by kernel_rfl
    simp only [hi, hs, List.drop_zero, List.drop_succ_cons, List.take_succ_cons, List.take_zero] at e0 e1 e2 e3 e4
    have k0 : [v0] = [Value.int .i64 x0] := e0
    have k1 : [v1] = [Value.int .i64 x1] := e1
    have k2 : [v2] = [Value.int .i64 x2] := e2
    have k3 : [v3] = [Value.int .i64 x3] := e3
    have k4 : [v4] = [Value.int .i64 x4] := e4
    cases k0
    cases k1
    cases k2
    cases k3
    cases k4
    exact ⟨⟨x0, x1, x2, x3, x4⟩, ⟨I64_of w1, I64_of w2, I64_of w3⟩, rfl⟩
end
theorem open_places {H : Type} {enc : TypeId × Value → H} {w : World} {base : Nat} {spare : Nat → Bool} {held : Bool} {A : Option Addr} {len cap : Nat} {d : DataW H} {p : List MemPlace}
    (h : DataW.Trod enc Try.prog w base spare held 44 (.slice A len cap) d p) : ∃ z : List Pc, len = z.length ∧ (z.length ≤ maxLen ∧ (∀ s ∈ z, PcI s) ∧ z.length ≤ cap ∧ cap ≤ maxLen) ∧ RdR 5 pcl w A z :=
  open_rows Try.underlying44 (by kernel_rfl) (by omega) (fun n cs x hl hx => one_place n cs x hl hx) h
end Go.Proofs.Ytcidpgjeddogmaa.Pl
