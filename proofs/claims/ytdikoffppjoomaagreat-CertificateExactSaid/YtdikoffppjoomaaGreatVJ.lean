/- Arguments opened: logs, certificates, heads, proofs; and the statement CertificateExact for every input. -/
import Derived.Test.YtdikoffppjoomaaGreatVI
import Derived.Test.YtdikoffppjoomaaGreatOP
import Derived.Laws.IdiomArrays
import Derived.WalkKit
import Derived.WalkSpells
import Derived.WalkLawsBesides
import Derived.Deep.QuietTactic
import Derived.BigQuiet
import Derived.Deep.Draws
import Derived.Deep.AppendLies
import Derived.Laws.OwnMore
import Derived.Laws.BytesArg
import Derived.Lib.Hide
import Derived.Deep.LoopGhost
namespace Go.Proofs.YtdikoffppjoomaaGreat.Ct
open Go.ChangeShapes Go.WideShapes Go.ChangeAt Go.RowKit Go.Deep Go.Proofs.YtdikoffppjoomaaGreat.Dg
open Go.Proofs.YtdikoffppjoomaaGreat.Mw (I64 I64_of RdI RdR bl_trans open_rows)
open Go.Proofs.YtdikoffppjoomaaGreat.Dc (light_any)
open Go.Proofs.YtdikoffppjoomaaGreat.Tr (RdD dl gd)
open Go.Proofs.YtdikoffppjoomaaGreat.Sg (Wd)
set_option linter.unusedVariables false
set_option linter.unusedSimpArgs false
set_option linter.constructorNameAsVariable false
set_option maxRecDepth 100000

section
variable {H : Type} {enc : TypeId × Value → H} {P : Program} {w : World} {base : Nat} {spare : Nat → Bool} {held : Bool}
theorem trod_struct5 {t : TypeId} {f0 f1 f2 f3 f4 : Field} {fuel : Nat} {cs : List Value} {x : DataW H × List MemPlace} (ht : P.underlying t = some (.struct #[f0, f1, f2, f3, f4])) (h : DataW.trod enc P w base spare held fuel t cs = some x) :
    ∃ y0 y1 y2 y3 y4 n, DataW.trod enc P w base spare held n f0.type ((cs.drop f0.offset).take (P.cellsOf f0.type)) = some y0 ∧
      DataW.trod enc P w base spare held n f1.type ((cs.drop f1.offset).take (P.cellsOf f1.type)) = some y1 ∧ DataW.trod enc P w base spare held n f2.type ((cs.drop f2.offset).take (P.cellsOf f2.type)) = some y2 ∧
      DataW.trod enc P w base spare held n f3.type ((cs.drop f3.offset).take (P.cellsOf f3.type)) = some y3 ∧ DataW.trod enc P w base spare held n f4.type ((cs.drop f4.offset).take (P.cellsOf f4.type)) = some y4 := by
  obtain ⟨xs, n, _, rfl, hl, hlen, hf⟩ := DataW.trod_struct ht h
  match xs, hlen with
  | [y0, y1, y2, y3, y4], _ => exact ⟨y0, y1, y2, y3, y4, n, by simpa using hf 0 f0 rfl, by simpa using hf 1 f1 rfl, by simpa using hf 2 f2 rfl, by simpa using hf 3 f3 rfl, by simpa using hf 4 f4 rfl⟩
/-- A slice of digests. -/
theorem open_digs {t e q : TypeId} {A : Option Addr} {len cap : Nat} {d : DataW H} {p : List MemPlace} (ht : P.underlying t = some (.slice e)) (he : P.underlying e = some (.array 4 q)) (hce : P.cellsOf e = 4) (hq : P.underlying q = some (.int .u32)) (hcq : P.cellsOf q = 1)
    (h : DataW.Trod enc P w base spare held t (.slice A len cap) d p) : ∃ z : List St, len = z.length ∧ z.length ≤ cap ∧ cap ≤ maxLen ∧ RdD w A z := by
  obtain ⟨fuel, hf⟩ := h
  rcases open_slice ht hf with ⟨h0, _⟩ | ⟨a, len', cap', m, n, D, Pl, hcs, _, hlc, hcm, hm, _, hx⟩
  · simp [Value.cells] at h0
    obtain ⟨rfl, rfl, rfl⟩ := h0
    exact ⟨[], rfl, by simp, by simp, RdD.nil _ _⟩
  · simp [Value.cells] at hcs
    obtain ⟨rfl, rfl, rfl⟩ := hcs
    have hlm : len ≤ m := by rw [hm]; split <;> omega
    have each : ∀ i, i < len → ∃ s : St, ∀ j v, (dl s)[j]? = some v → w.cell? (a.add (i * 4 + j)) = some v := by
      intro i hi
      obtain ⟨cs', h1, h2⟩ := hx i (by omega)
      rw [hce] at h1
      obtain ⟨_, hlen, hcell⟩ := World.cells?_some h1
      match cs', hlen with
      | [v0, v1, v2, v3], _ =>
        obtain ⟨y0, y1, y2, y3, n', _, hy0, hy1, hy2, hy3⟩ := trod_array4 he hcq h2
        obtain ⟨x0, e0, _, _⟩ := DataW.trod_int hq hy0
        obtain ⟨x1, e1, _, _⟩ := DataW.trod_int hq hy1
        obtain ⟨x2, e2, _, _⟩ := DataW.trod_int hq hy2
        obtain ⟨x3, e3, _, _⟩ := DataW.trod_int hq hy3
        simp at e0 e1 e2 e3
        subst e0 e1 e2 e3
        refine ⟨(x0, x1, x2, x3), fun j v hv => ?_⟩
        have hj : j < 4 := by
          rcases Nat.lt_or_ge j 4 with h | h
          · exact h
          · rw [List.getElem?_eq_none (by simp [dl]; omega)] at hv; cases hv
        have g := hcell j (by simpa using hj)
        rw [add_add] at g
        have : j = 0 ∨ j = 1 ∨ j = 2 ∨ j = 3 := by omega
        rcases this with rfl | rfl | rfl | rfl <;> simp [dl] at hv g <;> subst hv <;> simpa using g
    obtain ⟨q', hq'⟩ := choose_lt each
    refine ⟨(List.range len).map q', by simp, by simp; omega, hcm, fun i hi => ?_⟩
    have hi' : i < len := by simpa using hi
    have hg : gd ((List.range len).map q') i = q' i := by unfold gd; simp [List.getElem?_range, hi']
    have hc0 := hq' i hi' 0 _ rfl
    obtain ⟨b, off, spot⟩ := a
    have hspot : spot = none := by simpa [Addr.add] using World.cell?_spot (hq' 0 (by omega) 0 _ rfl)
    subst hspot
    have e1 : ∀ k, (⟨b, off, none⟩ : Addr).add k = ⟨b, off + k, none⟩ := fun k => by
      unfold Addr.add
      by_cases h : k = 0
      · subst h; rfl
      · simp [h]
    refine ⟨b, off, rfl, ?_, fun j v hv => ?_⟩
    · have := World.block_lt_of_cell? w _ hc0
      rw [e1] at this
      exact this
    · rw [hg] at hv
      have := hq' i hi' j v hv
      rw [e1] at this
      rw [Nat.add_assoc]
      exact this
end

section
variable {H : Type} {enc : TypeId × Value → H} {w : World} {base : Nat} {spare : Nat → Bool} {held : Bool}
theorem one_cf (n : Nat) (cs : List Value) (x : DataW H × List MemPlace) (hl : cs.length = 5) (h : DataW.trod enc Tryz.prog w base spare held n 46 cs = some x) : ∃ s : Cf, Cf64 s ∧ cs = cfl s := by
  match cs, hl with
  | [v0, v1, v2, v3, v4], _ =>
    obtain ⟨y0, y1, y2, y3, y4, n1, h0, h1, h2, h3, h4⟩ := trod_struct5 Tryz.underlying46 h
    obtain ⟨x0, e0, _, w0⟩ := DataW.trod_int Tryz.underlying3 h0
    obtain ⟨x1, e1, _, w1⟩ := DataW.trod_int Tryz.underlying3 h1
    obtain ⟨x2, e2, _, w2⟩ := DataW.trod_int Tryz.underlying3 h2
    obtain ⟨x3, e3, _, w3⟩ := DataW.trod_int Tryz.underlying3 h3
    obtain ⟨x4, e4, _, w4⟩ := DataW.trod_int Tryz.underlying3 h4
    have hi : Tryz.prog.cellsOf 3 = 1 := by kernel_rfl
    simp only [hi, List.drop_zero, List.drop_succ_cons, List.take_succ_cons, List.take_zero] at e0 e1 e2 e3 e4
    have k0 : [v0] = [Value.int .i64 x0] := e0
    have k1 : [v1] = [Value.int .i64 x1] := e1
    have k2 : [v2] = [Value.int .i64 x2] := e2
    have k3 : [v3] = [Value.int .i64 x3] := e3
    have k4 : [v4] = [Value.int .i64 x4] := e4
    cases k0
    cases k1
    cases k2
    cases k3
    cases k4
    exact ⟨⟨x0, x1, x2, x3, x4⟩, ⟨I64_of w0, I64_of w1, I64_of w2, I64_of w3, I64_of w4⟩, rfl⟩
theorem one_le (n : Nat) (cs : List Value) (x : DataW H × List MemPlace) (hl : cs.length = 6) (h : DataW.trod enc Tryz.prog w base spare held n 54 cs = some x) : ∃ s : Le, Le64 s ∧ cs = lel s := by
  match cs, hl with
  | [v0, v1, v2, v3, v4, v5], _ =>
    obtain ⟨y0, y1, n1, _, _, h0, h1⟩ := trod_struct2 Tryz.underlying54 h
    obtain ⟨x0, e0, _, w0⟩ := DataW.trod_int Tryz.underlying3 h0
    have hi : Tryz.prog.cellsOf 3 = 1 := by kernel_rfl
    have hc : Tryz.prog.cellsOf 46 = 5 := by kernel_rfl
    have h1' : DataW.trod enc Tryz.prog w base spare held n1 46 [v1, v2, v3, v4, v5] = some y1 := by simpa [hc] using h1
    obtain ⟨s, hs, es⟩ := one_cf n1 _ y1 rfl h1'
    simp only [hi, List.drop_zero, List.take_succ_cons, List.take_zero] at e0
    have k0 : [v0] = [Value.int .i64 x0] := e0
    cases k0
    refine ⟨⟨x0, s⟩, ⟨I64_of w0, hs⟩, ?_⟩
    show _ :: _ = _ :: _
    rw [es]
    rfl
theorem open_log {A : Option Addr} {len cap : Nat} {d : DataW H} {p : List MemPlace}
    (h : DataW.Trod enc Tryz.prog w base spare held 27 (.slice A len cap) d p) : ∃ z : List Le, len = z.length ∧ (z.length ≤ maxLen ∧ (∀ s ∈ z, Le64 s) ∧ z.length ≤ cap ∧ cap ≤ maxLen) ∧ RdL w A z :=
  open_rows Tryz.underlying27 (by kernel_rfl) (by omega) (fun n cs x hl hx => one_le n cs x hl hx) h
theorem open_cf {r : Reach} {b0 : Nat} {v : Value} {d : DataW H} {p : List MemPlace} (hv : Value.okWide Tryz.prog w r b0 46 v) (h : DataW.Trod enc Tryz.prog w base spare held 46 v d p) : ∃ s : Cf, v = cfv s ∧ Cf64 s := by
  obtain ⟨cs, rfl, hsz⟩ := okWide_struct Tryz.underlying46 hv
  obtain ⟨fuel, hf⟩ := h
  have hc : Tryz.prog.cellsOf 46 = 5 := by kernel_rfl
  obtain ⟨s, hs, es⟩ := one_cf fuel cs.toList _ (by simpa [hc] using hsz) (by simpa [Value.cells] using hf)
  exact ⟨s, by rw [show cs = (cfl s).toArray from by rw [← es]]; rfl, hs⟩
theorem one_dg (n : Nat) (c0 c1 c2 c3 : Value) (x : DataW H × List MemPlace) (h : DataW.trod enc Tryz.prog w base spare held n 35 [c0, c1, c2, c3] = some x) : ∃ s : St, Wd s ∧ c0 = .int .u32 s.1 ∧ c1 = .int .u32 s.2.1 ∧ c2 = .int .u32 s.2.2.1 ∧ c3 = .int .u32 s.2.2.2 := by
  obtain ⟨y0, y1, y2, y3, m, hx, hy0, hy1, hy2, hy3⟩ := trod_array4 Tryz.underlying35 (by kernel_rfl) h
  obtain ⟨x0, e0, _, w0⟩ := DataW.trod_int Tryz.underlying33 hy0
  obtain ⟨x1, e1, _, w1⟩ := DataW.trod_int Tryz.underlying33 hy1
  obtain ⟨x2, e2, _, w2⟩ := DataW.trod_int Tryz.underlying33 hy2
  obtain ⟨x3, e3, _, w3⟩ := DataW.trod_int Tryz.underlying33 hy3
  simp at e0 e1 e2 e3
  subst e0 e1 e2 e3
  have b : ∀ {a : Int}, (Lit.int .u32 a).wf = true → 0 ≤ a ∧ a < 4294967296 := fun h => by
    have := bounds_u32 h
    omega
  exact ⟨(x0, x1, x2, x3), ⟨b w0, b w1, b w2, b w3⟩, rfl, rfl, rfl, rfl⟩
theorem open_he {r : Reach} {b0 : Nat} {v : Value} {d : DataW H} {p : List MemPlace} (hv : Value.okWide Tryz.prog w r b0 39 v) (h : DataW.Trod enc Tryz.prog w base spare held 39 v d p) : ∃ s : He, v = hev s ∧ I64 s.R ∧ I64 s.S ∧ Wd s.r ∧ Wd s.l := by
  obtain ⟨⟨cs⟩, rfl, hsz⟩ := okWide_struct Tryz.underlying39 hv
  obtain ⟨fuel, hf⟩ := h
  have hc : Tryz.prog.cellsOf 39 = 12 := by kernel_rfl
  rw [hc] at hsz
  have hl : cs.length = 12 := hsz
  match cs, hl with
  | [v0, v1, v2, v3, v4, v5, v6, v7, v8, v9, v10, v11], _ =>
    have hf' : DataW.trod enc Tryz.prog w base spare held fuel 39 [v0, v1, v2, v3, v4, v5, v6, v7, v8, v9, v10, v11] = some (d, p) := by simpa [Value.cells] using hf
    obtain ⟨y0, y1, y2, y3, y4, n1, h0, h1, h2, h3, h4⟩ := trod_struct5 Tryz.underlying39 hf'
    have hi : Tryz.prog.cellsOf 3 = 1 := by kernel_rfl
    have hd : Tryz.prog.cellsOf 35 = 4 := by kernel_rfl
    have hs : Tryz.prog.cellsOf 37 = 2 := by kernel_rfl
    obtain ⟨x0, e0, _, w0⟩ := DataW.trod_int Tryz.underlying3 h0
    obtain ⟨x1, e1, _, w1⟩ := DataW.trod_int Tryz.underlying3 h1
    have h2' : DataW.trod enc Tryz.prog w base spare held n1 35 [v2, v3, v4, v5] = some y2 := by simpa [hd] using h2
    have h3' : DataW.trod enc Tryz.prog w base spare held n1 35 [v6, v7, v8, v9] = some y3 := by simpa [hd] using h3
    have h4' : DataW.trod enc Tryz.prog w base spare held n1 37 [v10, v11] = some y4 := by simpa [hs] using h4
    obtain ⟨s2, ws2, rfl, rfl, rfl, rfl⟩ := one_dg n1 _ _ _ _ y2 h2'
    obtain ⟨s3, ws3, rfl, rfl, rfl, rfl⟩ := one_dg n1 _ _ _ _ y3 h3'
    obtain ⟨z0, z1, n2, _, _, g0, g1⟩ := trod_struct2 Tryz.underlying37 h4'
    obtain ⟨x2, e2, _, w2⟩ := DataW.trod_int Tryz.underlying3 g0
    obtain ⟨x3, e3, _, w3⟩ := DataW.trod_int Tryz.underlying3 g1
    simp only [hi, List.drop_zero, List.drop_succ_cons, List.take_succ_cons, List.take_zero] at e0 e1 e2 e3
    have k0 : [v0] = [Value.int .i64 x0] := e0
    have k1 : [v1] = [Value.int .i64 x1] := e1
    have k2 : [v10] = [Value.int .i64 x2] := e2
    have k3 : [v11] = [Value.int .i64 x3] := e3
    cases k0
    cases k1
    cases k2
    cases k3
    exact ⟨⟨x0, x1, s2, s3, x2, x3⟩, rfl, I64_of w2, I64_of w3, ws2, ws3⟩
theorem open_pq {r : Reach} {b0 : Nat} {v : Value} {d : DataW H} {p : List MemPlace} (hv : Value.okWide Tryz.prog w r b0 49 v) (h : DataW.Trod enc Tryz.prog w base spare held 49 v d p) : ∃ q : Pq, v = pqv q ∧ q.pa.length ≤ q.ca ∧ q.ca ≤ maxLen ∧ RdD w q.A q.pa ∧ q.sp.length ≤ q.cb ∧ q.cb ≤ maxLen ∧ RdD w q.B q.sp := by
  obtain ⟨⟨cs⟩, rfl, hsz⟩ := okWide_struct Tryz.underlying49 hv
  obtain ⟨fuel, hf⟩ := h
  have hc : Tryz.prog.cellsOf 49 = 4 := by kernel_rfl
  rw [hc] at hsz
  have hl : cs.length = 4 := hsz
  match cs, hl with
  | [v0, v1, v2, v3], _ =>
    have hf' : DataW.trod enc Tryz.prog w base spare held fuel 49 [v0, v1, v2, v3] = some (d, p) := by simpa [Value.cells] using hf
    obtain ⟨y0, y1, y2, y3, n1, _, _, h0, h1, h2, h3⟩ := Joins.trod_struct4 Tryz.underlying49 hf'
    have hi : Tryz.prog.cellsOf 3 = 1 := by kernel_rfl
    have hs : Tryz.prog.cellsOf 47 = 1 := by kernel_rfl
    obtain ⟨x0, e0, _, w0⟩ := DataW.trod_int Tryz.underlying3 h0
    obtain ⟨x1, e1, _, w1⟩ := DataW.trod_int Tryz.underlying3 h1
    have h2' : DataW.trod enc Tryz.prog w base spare held n1 47 [v2] = some y2 := by simpa [hs] using h2
    have h3' : DataW.trod enc Tryz.prog w base spare held n1 47 [v3] = some y3 := by simpa [hs] using h3
    obtain ⟨A, n, c, k2⟩ := Joins.slice_form Tryz.underlying47 h2'
    obtain ⟨B, m, c', k3⟩ := Joins.slice_form Tryz.underlying47 h3'
    cases k2
    cases k3
    obtain ⟨z2, rfl, a2, b2, r2⟩ := open_digs Tryz.underlying47 Tryz.underlying35 (by kernel_rfl) Tryz.underlying33 (by kernel_rfl) ⟨n1, (show DataW.trod enc Tryz.prog w base spare held n1 47 (Value.slice A n c).cells.toList = some (y2.1, y2.2) from h2')⟩
    obtain ⟨z3, rfl, a3, b3, r3⟩ := open_digs Tryz.underlying47 Tryz.underlying35 (by kernel_rfl) Tryz.underlying33 (by kernel_rfl) ⟨n1, (show DataW.trod enc Tryz.prog w base spare held n1 47 (Value.slice B m c').cells.toList = some (y3.1, y3.2) from h3')⟩
    simp only [hi, List.drop_zero, List.drop_succ_cons, List.take_succ_cons, List.take_zero] at e0 e1
    have k0 : [v0] = [Value.int .i64 x0] := e0
    have k1 : [v1] = [Value.int .i64 x1] := e1
    cases k0
    cases k1
    exact ⟨⟨x0, x1, z2, z3, A, c, B, c'⟩, rfl, a2, b2, r2, a3, b3, r3⟩
end

set_option maxHeartbeats 4000000 in
set_option maxRecDepth 1000000 in
theorem exact_all (l0 : List Int) (A0 : Option Addr) (c0 : Nat) (R : List Le) (AR : Option Addr) (cR : Nat) (c : Cf) (h : He) (p : Pq) (id first : Int) (w : World)
    (hr : RdI w .i64 A0 l0) (hi : ∀ x ∈ l0, I64 x) (hR : RdL w AR R) (hRc : R.length ≤ cR) (hR64 : ∀ x, x ∈ R → Le64 x) (hRm : R.length ≤ maxLen) (hLm : l0.length ≤ maxLen)
    (hc : Cf64 c) (hh : I64 h.R ∧ I64 h.S ∧ Wd h.r ∧ Wd h.l) (hpa : p.pa.length ≤ p.ca ∧ p.ca ≤ maxLen ∧ RdD w p.A p.pa) (hsp : p.sp.length ≤ p.cb ∧ p.cb ≤ maxLen ∧ RdD w p.B p.sp) (hid : I64 id) (hfi : I64 first) :
    Calls Tryz.prog 4 #[.slice A0 l0.length c0, .slice AR R.length cR, cfv c, hev h, pqv p, .int .i64 id, .int .i64 first] w fun e w' => e = .returned (.bool true) ∧ Below w.heap.size w w' := by
  have hma : p.pa.length ≤ maxLen := by omega
  have hmb : p.sp.length ≤ maxLen := by omega
  unfold maxLen at hRm hLm hma hmb
  by_cases q1 : l0.length ≤ 600
  · by_cases q2 : R.length ≤ 10
    · by_cases q3 : p.pa.length ≤ 10
      · by_cases q4 : p.sp.length ≤ 10
        · exact exact_law l0 A0 c0 R AR cR c h p id first w hr hi q1 hR q2 hRc hR64 hc hh ⟨by omega, hpa⟩ q3 ⟨by omega, hsp⟩ q4 hid hfi
        · clear hr hi hR hR64 hc hh hpa hsp hid hfi hRc
          have HL := Lib.hid (show ∀ W : World, Calls Tryz.prog 5 #[.slice A0 l0.length c0] W fun e w' => e = .returned (.bool true) ∧ W = w' from fun W => by have h6 := light_any l0 A0 c0 W; rwa [decide_eq_true q1] at h6)
          have t0 : decide ((10 : Int) < (R.length : Int)) = false := decide_eq_false (by omega)
          have t0' : decide (10 < R.length) = false := decide_eq_false (by omega)
          have t1 : decide ((10 : Int) < (p.pa.length : Int)) = false := decide_eq_false (by omega)
          have t1' : decide (10 < p.pa.length) = false := decide_eq_false (by omega)
          have t2 : decide ((10 : Int) < (p.sp.length : Int)) = true := decide_eq_true (by omega)
          have t2' : decide (10 < p.sp.length) = true := decide_eq_true (by omega)
          go_enter Tryz.func4, Tryz.ntmps4
          go_wp2_with fail
          refine (HL.out _).mono ?_
          rintro e w0 ⟨rfl, rfl⟩
          go_wp2_with fail
          refine (sane_any _).mono ?_
          rintro e w9 ⟨rfl, hb9⟩
          go_wp2_with fail
          go_ret
          exact ⟨rfl, bl_trans (by (repeat (first | with_reducible exact Below.refl _ _ | with_reducible refine bl_drewN ?_ _ | with_reducible refine Below.drew ?_ | with_reducible refine bl_alloc ?_ _ | with_reducible refine Below.alloc ?_ (by first | omega | (simp; done) | (simp; omega)) _ | with_reducible refine Below.setCell ?_ (by first | omega | (simp; done) | (simp; omega)) _ | with_reducible assumption))) hb9⟩
      · clear hr hi hR hR64 hc hh hpa hsp hid hfi hRc
        have HL := Lib.hid (show ∀ W : World, Calls Tryz.prog 5 #[.slice A0 l0.length c0] W fun e w' => e = .returned (.bool true) ∧ W = w' from fun W => by have h6 := light_any l0 A0 c0 W; rwa [decide_eq_true q1] at h6)
        have t0 : decide ((10 : Int) < (R.length : Int)) = false := decide_eq_false (by omega)
        have t0' : decide (10 < R.length) = false := decide_eq_false (by omega)
        have t1 : decide ((10 : Int) < (p.pa.length : Int)) = true := decide_eq_true (by omega)
        have t1' : decide (10 < p.pa.length) = true := decide_eq_true (by omega)
        go_enter Tryz.func4, Tryz.ntmps4
        go_wp2_with fail
        refine (HL.out _).mono ?_
        rintro e w0 ⟨rfl, rfl⟩
        go_wp2_with fail
        refine (sane_any _).mono ?_
        rintro e w9 ⟨rfl, hb9⟩
        go_wp2_with fail
        go_ret
        exact ⟨rfl, bl_trans (by (repeat (first | with_reducible exact Below.refl _ _ | with_reducible refine bl_drewN ?_ _ | with_reducible refine Below.drew ?_ | with_reducible refine bl_alloc ?_ _ | with_reducible refine Below.alloc ?_ (by first | omega | (simp; done) | (simp; omega)) _ | with_reducible refine Below.setCell ?_ (by first | omega | (simp; done) | (simp; omega)) _ | with_reducible assumption))) hb9⟩
    · clear hr hi hR hR64 hc hh hpa hsp hid hfi hRc
      have HL := Lib.hid (show ∀ W : World, Calls Tryz.prog 5 #[.slice A0 l0.length c0] W fun e w' => e = .returned (.bool true) ∧ W = w' from fun W => by have h6 := light_any l0 A0 c0 W; rwa [decide_eq_true q1] at h6)
      have t0 : decide ((10 : Int) < (R.length : Int)) = true := decide_eq_true (by omega)
      have t0' : decide (10 < R.length) = true := decide_eq_true (by omega)
      go_enter Tryz.func4, Tryz.ntmps4
      go_wp2_with fail
      refine (HL.out _).mono ?_
      rintro e w0 ⟨rfl, rfl⟩
      go_wp2_with fail
      refine (sane_any _).mono ?_
      rintro e w9 ⟨rfl, hb9⟩
      go_wp2_with fail
      go_ret
      exact ⟨rfl, bl_trans (by (repeat (first | with_reducible exact Below.refl _ _ | with_reducible refine bl_drewN ?_ _ | with_reducible refine Below.drew ?_ | with_reducible refine bl_alloc ?_ _ | with_reducible refine Below.alloc ?_ (by first | omega | (simp; done) | (simp; omega)) _ | with_reducible refine Below.setCell ?_ (by first | omega | (simp; done) | (simp; omega)) _ | with_reducible assumption))) hb9⟩
  · clear hr hi hR hR64 hc hh hpa hsp hid hfi hRc
    have HL := Lib.hid (show ∀ W : World, Calls Tryz.prog 5 #[.slice A0 l0.length c0] W fun e w' => e = .returned (.bool false) ∧ W = w' from fun W => by have h6 := light_any l0 A0 c0 W; rwa [decide_eq_false q1] at h6)
    go_enter Tryz.func4, Tryz.ntmps4
    go_wp2_with fail
    refine (HL.out _).mono ?_
    rintro e w0 ⟨rfl, rfl⟩
    go_wp2_with fail
    refine (sane_any _).mono ?_
    rintro e w9 ⟨rfl, hb9⟩
    go_wp2_with fail
    go_ret
    exact ⟨rfl, bl_trans (by (repeat (first | with_reducible exact Below.refl _ _ | with_reducible refine bl_drewN ?_ _ | with_reducible refine Below.drew ?_ | with_reducible refine bl_alloc ?_ _ | with_reducible refine Below.alloc ?_ (by first | omega | (simp; done) | (simp; omega)) _ | with_reducible refine Below.setCell ?_ (by first | omega | (simp; done) | (simp; omega)) _ | with_reducible assumption))) hb9⟩
end Go.Proofs.YtdikoffppjoomaaGreat.Ct
