/- Arguments opened: a slice of digests; and the statement TreeExact for every list. -/
import Derived.Test.YtmdgghdmfipllaaRX
import Derived.Test.YtmdgghdmfipllaaOP
import Derived.WalkKit
import Derived.ProofKit
import Derived.OpenShut
import Derived.Deep.Slices
import Derived.Laws.IdiomArrays
import Derived.Lib.SmallJoins
import Derived.WalkKit
import Derived.WalkSpells
import Derived.WalkLawsBesides
import Derived.Deep.QuietTactic
import Derived.BigQuiet
import Derived.Deep.Draws
import Derived.Deep.AppendLies
import Derived.Laws.OwnMore
import Derived.Laws.BytesArg
import Derived.Lib.Hide
import Derived.Deep.LoopGhost
namespace Go.Proofs.Ytmdgghdmfipllaa.Tr
open Go.ChangeShapes Go.WideShapes Go.ChangeAt Go.RowKit Go.Deep Go.Proofs.Ytmdgghdmfipllaa.Dg
open Go.Proofs.Ytmdgghdmfipllaa.Mw (I64 RdI bl_trans)
open Go.Proofs.Ytmdgghdmfipllaa.Dc (light_any)
set_option linter.unusedVariables false

section
variable {H : Type} {enc : TypeId × Value → H} {P : Program} {w : World} {base : Nat} {spare : Nat → Bool} {held : Bool}
/-- An array of four words by value. -/
theorem open_arr4 {r : Reach} {b0 : Nat} {t e : TypeId} {v : Value} {d : DataW H} {p : List MemPlace} (ht : P.underlying t = some (.array 4 e)) (hC : P.cellsOf t = 4) (he : P.underlying e = some (.int .u32)) (hce : P.cellsOf e = 1)
    (hv : Value.okWide P w r b0 t v) (h : DataW.Trod enc P w base spare held t v d p) : ∃ s : St, v = dv s ∧ True := by
  obtain ⟨cs, rfl, hsz, _⟩ : ∃ cs, v = .agg cs ∧ cs.size = P.cellsOf t ∧ Row.okWide P w r b0 t cs := by
    simpa [Value.okWide, ht] using hv
  rw [hC] at hsz
  obtain ⟨c0, c1, c2, c3, rfl⟩ := Joins.array4 hsz
  obtain ⟨fuel, hf⟩ := h
  obtain ⟨y0, y1, y2, y3, m, hx, hy0, hy1, hy2, hy3⟩ := trod_array4 ht hce hf
  obtain ⟨x0, e0, rfl, w0⟩ := DataW.trod_int he hy0
  obtain ⟨x1, e1, rfl, w1⟩ := DataW.trod_int he hy1
  obtain ⟨x2, e2, rfl, w2⟩ := DataW.trod_int he hy2
  obtain ⟨x3, e3, rfl, w3⟩ := DataW.trod_int he hy3
  simp at e0 e1 e2 e3
  subst e0 e1 e2 e3
  exact ⟨(x0, x1, x2, x3), rfl, trivial⟩
/-- A slice of digests. -/
theorem open_digs {t e q : TypeId} {A : Option Addr} {len cap : Nat} {d : DataW H} {p : List MemPlace} (ht : P.underlying t = some (.slice e)) (he : P.underlying e = some (.array 4 q)) (hce : P.cellsOf e = 4) (hq : P.underlying q = some (.int .u32)) (hcq : P.cellsOf q = 1)
    (h : DataW.Trod enc P w base spare held t (.slice A len cap) d p) : ∃ z : List St, len = z.length ∧ z.length ≤ cap ∧ cap ≤ maxLen ∧ RdD w A z := by
  obtain ⟨fuel, hf⟩ := h
  rcases open_slice ht hf with ⟨h0, _⟩ | ⟨a, len', cap', m, n, D, Pl, hcs, _, hlc, hcm, hm, _, hx⟩
  · simp [Value.cells] at h0
    obtain ⟨rfl, rfl, rfl⟩ := h0
    exact ⟨[], rfl, by simp, by simp, RdD.nil _ _⟩
  · simp [Value.cells] at hcs
    obtain ⟨rfl, rfl, rfl⟩ := hcs
    have hlm : len ≤ m := by rw [hm]; split <;> omega
    have each : ∀ i, i < len → ∃ s : St, ∀ j v, (dl s)[j]? = some v → w.cell? (a.add (i * 4 + j)) = some v := by
      intro i hi
      obtain ⟨cs', h1, h2⟩ := hx i (by omega)
      rw [hce] at h1
      obtain ⟨_, hlen, hcell⟩ := World.cells?_some h1
      match cs', hlen with
      | [v0, v1, v2, v3], _ =>
        obtain ⟨y0, y1, y2, y3, n', _, hy0, hy1, hy2, hy3⟩ := trod_array4 he hcq h2
        obtain ⟨x0, e0, _, _⟩ := DataW.trod_int hq hy0
        obtain ⟨x1, e1, _, _⟩ := DataW.trod_int hq hy1
        obtain ⟨x2, e2, _, _⟩ := DataW.trod_int hq hy2
        obtain ⟨x3, e3, _, _⟩ := DataW.trod_int hq hy3
        simp at e0 e1 e2 e3
        subst e0 e1 e2 e3
        refine ⟨(x0, x1, x2, x3), fun j v hv => ?_⟩
        have hj : j < 4 := by
          rcases Nat.lt_or_ge j 4 with h | h
          · exact h
          · rw [List.getElem?_eq_none (by simp [dl]; omega)] at hv; cases hv
        have g := hcell j (by simpa using hj)
        rw [add_add] at g
        have : j = 0 ∨ j = 1 ∨ j = 2 ∨ j = 3 := by omega
        rcases this with rfl | rfl | rfl | rfl <;> simp [dl] at hv g <;> subst hv <;> simpa using g
    obtain ⟨q', hq'⟩ := choose_lt each
    refine ⟨(List.range len).map q', by simp, by simp; omega, hcm, fun i hi => ?_⟩
    have hi' : i < len := by simpa using hi
    have hg : gd ((List.range len).map q') i = q' i := by unfold gd; simp [List.getElem?_range, hi']
    have hc0 := hq' i hi' 0 _ rfl
    obtain ⟨b, off, spot⟩ := a
    have hspot : spot = none := by simpa [Addr.add] using World.cell?_spot (hq' 0 (by omega) 0 _ rfl)
    subst hspot
    have e1 : ∀ k, (⟨b, off, none⟩ : Addr).add k = ⟨b, off + k, none⟩ := fun k => by
      unfold Addr.add
      by_cases h : k = 0
      · subst h; rfl
      · simp [h]
    refine ⟨b, off, rfl, ?_, fun j v hv => ?_⟩
    · have := World.block_lt_of_cell? w _ hc0
      rw [e1] at this
      exact this
    · rw [hg] at hv
      have := hq' i hi' j v hv
      rw [e1] at this
      rw [Nat.add_assoc]
      exact this
end

set_option maxHeartbeats 4000000 in
set_option maxRecDepth 1000000 in
theorem exact_all (l0 : List Int) (A0 : Option Addr) (c0 : Nat) (R : List St) (AR : Option Addr) (cR : Nat) (ix size first : Int) (d : St) (w : World) (hr : RdI w .i64 A0 l0) (hi : ∀ x ∈ l0, I64 x) (hl : l0.length ≤ maxLen) (hR : RdD w AR R) (hRc : R.length ≤ cR) (hRm : cR ≤ maxLen) (h1 : I64 ix) (h2 : I64 size) (h3 : I64 first) :
    Calls Try.prog 5 #[.slice A0 l0.length c0, .slice AR R.length cR, .int .i64 ix, .int .i64 size, .int .i64 first, dv d] w fun e w' => e = .returned (.bool true) ∧ Below w.heap.size w w' := by
  by_cases q1 : l0.length ≤ 600
  · by_cases q2 : R.length ≤ 20
    · exact exact_any l0 A0 c0 R AR cR ix size first d w hr hi hR hRc hRm h1 h2 h3 q1 q2
    · have HL := Lib.hid (show ∀ W : World, Calls Try.prog 7 #[.slice A0 l0.length c0] W fun e w' => e = .returned (.bool true) ∧ W = w' from fun W => by have h6 := light_any l0 A0 c0 W; rwa [decide_eq_true q1] at h6)
      have t1 : decide ((20 : Int) < (R.length : Int)) = true := decide_eq_true (by omega)
      have t1' : decide (20 < R.length) = true := decide_eq_true (by omega)
      unfold maxLen at hRm
      clear hr hi hR h1 h2 h3
      go_enter Try.func5, Try.ntmps5
      go_wp2_with fail
      refine (HL.out _).mono ?_
      rintro e w0 ⟨rfl, rfl⟩
      go_wp2_with fail
      refine (sane_any _).mono ?_
      rintro e w9 ⟨rfl, hb9⟩
      go_wp2_with fail
      go_ret
      exact ⟨rfl, bl_trans (by (repeat (first | with_reducible exact Below.refl _ _ | with_reducible refine bl_drewN ?_ _ | with_reducible refine Below.drew ?_ | with_reducible refine bl_alloc ?_ _ | with_reducible refine Below.alloc ?_ (by first | omega | (simp; done) | (simp; omega)) _ | with_reducible refine Below.setCell ?_ (by first | omega | (simp; done) | (simp; omega)) _ | with_reducible assumption))) hb9⟩
  · have HL := Lib.hid (show ∀ W : World, Calls Try.prog 7 #[.slice A0 l0.length c0] W fun e w' => e = .returned (.bool false) ∧ W = w' from fun W => by have h6 := light_any l0 A0 c0 W; rwa [decide_eq_false q1] at h6)
    clear hr hi hR h1 h2 h3
    go_enter Try.func5, Try.ntmps5
    go_wp2_with fail
    refine (HL.out _).mono ?_
    rintro e w0 ⟨rfl, rfl⟩
    go_wp2_with fail
    refine (sane_any _).mono ?_
    rintro e w9 ⟨rfl, hb9⟩
    go_wp2_with fail
    go_ret
    exact ⟨rfl, bl_trans (by (repeat (first | with_reducible exact Below.refl _ _ | with_reducible refine bl_drewN ?_ _ | with_reducible refine Below.drew ?_ | with_reducible refine bl_alloc ?_ _ | with_reducible refine Below.alloc ?_ (by first | omega | (simp; done) | (simp; omega)) _ | with_reducible refine Below.setCell ?_ (by first | omega | (simp; done) | (simp; omega)) _ | with_reducible assumption))) hb9⟩
end Go.Proofs.Ytmdgghdmfipllaa.Tr
