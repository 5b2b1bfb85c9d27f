/- Words for memory: maps with integer keys that read as functions. -/
import Derived.Test.YtdikoffppjoomaaGreatMW
import Derived.Maps.Own
import Derived.Maps.OwnSet
import Derived.Maps.Keyed
import Derived.Lib.SlKeysI
import Derived.Test.YtdikoffppjoomaaGreatRows
import Derived.Test.YtdikoffppjoomaaGreatCA
import Derived.Test.YtdikoffppjoomaaGreatUR
import Derived.Test.YtdikoffppjoomaaGreatGN
import Derived.WalkKit
import Derived.WalkSpells
import Derived.WalkLawsBesides
import Derived.Deep.QuietTactic
import Derived.BigQuiet
import Derived.Deep.Draws
import Derived.Deep.AppendLies
import Derived.Laws.OwnMore
import Derived.Laws.BytesArg
import Derived.Lib.Hide
import Derived.Deep.LoopGhost
namespace Go.Proofs.YtdikoffppjoomaaGreat.Ct
open Go Go.RowKit Go.Maps
open Go.Proofs.YtdikoffppjoomaaGreat.Mw (I64 Bk gb_refl)
set_option linter.unusedVariables false
set_option linter.unusedSimpArgs false

theorem wf64 {k : Int} (h : I64 k) : (Lit.int .i64 k).wf = true := by
  unfold I64 at h
  simp [Lit.wf, IntKind.min, IntKind.max, IntKind.signed, IntKind.bits]
  try omega
/-- Block b is a map of at most n entries that reads as the function f; R reads an element. -/
def MapF (R : Value → Option (DataW Unit × List MemPlace)) (w : World) (b n : Nat) (f : Int → Option Value) : Prop :=
  ∃ D : DataW Unit, w.ownsMap Tryz.prog 3 R b n D ∧ ∀ k, I64 k → match f k with
    | some v => has D (.int .i64 k) = true ∧ ∃ d ps, R v = some (d, ps) ∧ ∀ z, D.atKey (.int .i64 k) z = d
    | none => has D (.int .i64 k) = false
section
variable {R : Value → Option (DataW Unit × List MemPlace)} {w w' : World} {b n : Nat} {f : Int → Option Value}
theorem MapF.lt (h : MapF R w b n f) : b < w.heap.size := by obtain ⟨D, h1, _⟩ := h; exact h1.lt
theorem MapF.mono (h : MapF R w b n f) {m : Nat} (hm : n ≤ m) : MapF R w b m f := by obtain ⟨D, h1, h2⟩ := h; exact ⟨D, h1.mono hm, h2⟩
theorem MapF.grown {row : Option Nat} (h : MapF R w b n f) (hg : w.grownBy w' row) (hne : some b ≠ row) : MapF R w' b n f := by obtain ⟨D, h1, h2⟩ := h; exact ⟨D, h1.kept hg hne, h2⟩
theorem MapF.old (h : MapF R w b n f) (hb : Below w.heap.size w w') : MapF R w' b n f :=
  h.grown (row := none) ⟨hb.os, hb.tape, hb.output, hb.size, fun i hi _ => hb.block i hi⟩ (by simp)
theorem MapF.alloc (h : MapF R w b n f) (o : Obj) : MapF R (w.alloc o) b n f := by obtain ⟨D, h1, h2⟩ := h; exact ⟨D, h1.alloc o, h2⟩
theorem MapF.drew (h : MapF R w b n f) : MapF R w.drew b n f := h
theorem MapF.far (h : MapF R w b n f) {p : Addr} (hp : b ≠ p.block) (u : Value) : MapF R (w.setCell p u) b n f := by obtain ⟨D, h1, h2⟩ := h; exact ⟨D, h1.setCell hp u, h2⟩
theorem MapF.congr {g : Int → Option Value} (h : MapF R w b n f) (hf : ∀ k, I64 k → f k = g k) : MapF R w b n g := by
  obtain ⟨D, h1, h2⟩ := h
  exact ⟨D, h1, fun k hk => by rw [← hf k hk]; exact h2 k hk⟩
theorem MapF.made (w : World) : MapF R (w.alloc (.map #[] 0)) w.heap.size 0 fun _ => none := ⟨_, World.ownsMap_made w _ _ R, fun k _ => rfl⟩
theorem ne_key {k x : Int} (h : x ≠ k) : (Lit.int .i64 x) ≠ (Lit.int .i64 k) := fun e => h (by cases e; rfl)
theorem key_lit (k : Int) : WideAt.IsKeyLit (.int .i64 k) := by first | trivial | (simp [WideAt.IsKeyLit]) | (unfold WideAt.IsKeyLit; simp)
/-- Reading is one to one. -/
def Inj (R : Value → Option (DataW Unit × List MemPlace)) : Prop := ∀ v v' d p p', R v = some (d, p) → R v' = some (d, p') → v = v'
/-- v, ok := m[k]. -/
theorem MapF.look (h : MapF R w b n f) (hR : Inj R) {t e : TypeId} (ht : Tryz.prog.underlying t = some (.map 3 e)) {z : Value} (hz : (zeroValue e).run Tryz.prog w = .ok z w) {zd : DataW Unit} {zp : List MemPlace} (hzd : R z = some (zd, zp)) {k : Int} (hk : I64 k) :
    (Instr.lookup t (.map (some b)) (.int .i64 k) true).run Tryz.prog w = .ok (.tuple #[(f k).getD z, .bool (f k).isSome]) w := by
  obtain ⟨D, h1, h2⟩ := h
  obtain ⟨v, ps, hrun, hv⟩ := h1.look_ok (int_keyed Tryz.underlying3) ht hz hzd (keyOf_int_mk Tryz.underlying3 (wf64 hk))
  rw [hrun]
  have h3 := h2 k hk
  cases hf : f k with
  | none =>
    rw [hf] at h3
    have h3' : has D (.int .i64 k) = false := h3
    rw [atKey_of_not_has h3'] at hv
    rw [hR _ _ _ _ _ hv hzd, h3']; rfl
  | some u =>
    rw [hf] at h3
    obtain ⟨h4, d, p, h5, h6⟩ := h3
    rw [h6] at hv
    rw [hR _ _ _ _ _ hv h5, h4]; rfl
/-- m[k]. -/
theorem MapF.look1 (h : MapF R w b n f) (hR : Inj R) {t e : TypeId} (ht : Tryz.prog.underlying t = some (.map 3 e)) {z : Value} (hz : (zeroValue e).run Tryz.prog w = .ok z w) {zd : DataW Unit} {zp : List MemPlace} (hzd : R z = some (zd, zp)) {k : Int} (hk : I64 k) :
    (Instr.lookup t (.map (some b)) (.int .i64 k) false).run Tryz.prog w = .ok ((f k).getD z) w := by
  obtain ⟨D, h1, h2⟩ := h
  obtain ⟨v, ps, hrun, hv⟩ := h1.lookup (int_keyed Tryz.underlying3) ht hz hzd (keyOf_int_mk Tryz.underlying3 (wf64 hk))
  rw [hrun]
  have h3 := h2 k hk
  cases hf : f k with
  | none =>
    rw [hf] at h3
    have h3' : has D (.int .i64 k) = false := h3
    rw [atKey_of_not_has h3'] at hv
    rw [hR _ _ _ _ _ hv hzd]; rfl
  | some u =>
    rw [hf] at h3
    obtain ⟨h4, d, p, h5, h6⟩ := h3
    rw [h6] at hv
    rw [hR _ _ _ _ _ hv h5]; rfl
/-- m[k] = v. -/
theorem MapF.put (h : MapF R w b n f) {t e : TypeId} (ht : Tryz.prog.underlying t = some (.map 3 e)) (hn : n < maxLen) {k : Int} (hk : I64 k) {v : Value} {d : DataW Unit} {ps : List MemPlace} (hv : R v = some (d, ps)) :
    ∃ w', (Instr.mapUpdate t (.map (some b)) (.int .i64 k) v).run Tryz.prog w = .ok () w' ∧ MapF R w' b (n + 1) (fun x => if x = k then some v else f x) ∧ w.grownBy w' (some b) := by
  obtain ⟨D, h1, h2⟩ := h
  obtain ⟨w', hrun, ho, hg⟩ := h1.update (int_keyed Tryz.underlying3) ht hn (keyOf_int_mk Tryz.underlying3 (wf64 hk)) hv
  refine ⟨w', hrun, ⟨_, ho, fun x hx => ?_⟩, hg⟩
  have hm := h1.isMap
  show match (if x = k then _ else f x) with | some v => _ | none => _
  by_cases e : x = k
  · subst e
    rw [if_pos rfl]
    exact ⟨has_put_same hm (key_lit x) d, d, ps, hv, fun z => atKey_put_same hm (key_lit x) d z⟩
  · rw [if_neg e]
    have h3 := h2 x hx
    cases hf : f x with
    | none =>
      rw [hf] at h3
      show has _ _ = false
      rw [has_put_other (ne_key e)]; exact h3
    | some u =>
      rw [hf] at h3
      obtain ⟨h4, d', p, h5, h6⟩ := h3
      exact ⟨by rw [has_put_other (ne_key e)]; exact h4, d', p, h5, fun z => by rw [atKey_put_other (ne_key e)]; exact h6 z⟩
/-- delete(m, k). -/
theorem MapF.del (h : MapF R w b n f) {t e : TypeId} (ht : Tryz.prog.underlying t = some (.map 3 e)) {k : Int} (hk : I64 k) (ty : TypeId) :
    ∃ w', (Builtin.delete_ #[t, 3] ty #[.map (some b), .int .i64 k]).run Tryz.prog w = .ok (.tuple #[]) w' ∧ MapF R w' b n (fun x => if x = k then none else f x) ∧ w.grownBy w' (some b) := by
  obtain ⟨D, h1, h2⟩ := h
  obtain ⟨w', hrun, ho, hg⟩ := h1.drop (int_keyed Tryz.underlying3) ht (keyOf_int_mk Tryz.underlying3 (wf64 hk)) ty
  refine ⟨w', hrun, ⟨_, ho, fun x hx => ?_⟩, hg.grown⟩
  show match (if x = k then _ else f x) with | some v => _ | none => _
  by_cases e : x = k
  · subst e
    rw [if_pos rfl]
    exact has_del_same
  · rw [if_neg e]
    have h3 := h2 x hx
    cases hf : f x with
    | none =>
      rw [hf] at h3
      show has _ _ = false
      rw [has_del_other (ne_key e)]; exact h3
    | some u =>
      rw [hf] at h3
      obtain ⟨h4, d', p, h5, h6⟩ := h3
      exact ⟨by rw [has_del_other (ne_key e)]; exact h4, d', p, h5, fun z => by rw [atKey_del_other (ne_key e)]; exact h6 z⟩
end
end Go.Proofs.YtdikoffppjoomaaGreat.Ct
namespace Go.Proofs.YtdikoffppjoomaaGreat.Ct
open Go.RowKit Go.Proofs.YtdikoffppjoomaaGreat.Dg
open Go.Proofs.YtdikoffppjoomaaGreat.Mw (I64 ret_int ret_bool Bk bl_trans own_ints RdI RdR ge ge_lt gi)
set_option linter.unusedVariables false
set_option linter.unusedSimpArgs false

def cfl (c : Cf) : List Value := [.int .i64 c.i, .int .i64 c.c, .int .i64 c.g, .int .i64 c.t, .int .i64 c.r]
def lel (e : Le) : List Value := [.int .i64 e.k, .int .i64 e.f.i, .int .i64 e.f.c, .int .i64 e.f.g, .int .i64 e.f.t, .int .i64 e.f.r]
abbrev cfv (c : Cf) : Value := .agg #[.int .i64 c.i, .int .i64 c.c, .int .i64 c.g, .int .i64 c.t, .int .i64 c.r]
abbrev lev (e : Le) : Value := .agg #[.int .i64 e.k, .int .i64 e.f.i, .int .i64 e.f.c, .int .i64 e.f.g, .int .i64 e.f.t, .int .i64 e.f.r]
theorem cfl_len (c : Cf) : (cfl c).length = 5 := rfl
theorem lel_len (e : Le) : (lel e).length = 6 := rfl
def Cf64 (c : Cf) : Prop := I64 c.i ∧ I64 c.c ∧ I64 c.g ∧ I64 c.t ∧ I64 c.r
def Le64 (e : Le) : Prop := I64 e.k ∧ Cf64 e.f
abbrev RdL (w : World) (A : Option Addr) (l : List Le) : Prop := RdR 6 lel w A l
abbrev RdC (w : World) (A : Option Addr) (l : List Cf) : Prop := RdR 5 cfl w A l
theorem le_at {w : World} {A : Option Addr} {l : List Le} (h : RdL w A l) (i : Nat) (hi : i < l.length) : ∃ b off, A = some ⟨b, off, none⟩ ∧ b < w.heap.size ∧ w.cell? ⟨b, off + i * 6, none⟩ = some (.int .i64 (ge l i).k) ∧ w.cell? ⟨b, off + i * 6 + 1, none⟩ = some (.int .i64 (ge l i).f.i) ∧ w.cell? ⟨b, off + i * 6 + 2, none⟩ = some (.int .i64 (ge l i).f.c) ∧ w.cell? ⟨b, off + i * 6 + 3, none⟩ = some (.int .i64 (ge l i).f.g) ∧ w.cell? ⟨b, off + i * 6 + 4, none⟩ = some (.int .i64 (ge l i).f.t) ∧ w.cell? ⟨b, off + i * 6 + 5, none⟩ = some (.int .i64 (ge l i).f.r) := by
  obtain ⟨b, off, e, hlt, hc⟩ := h i hi
  exact ⟨b, off, e, hlt, hc 0 (by omega), hc 1 (by omega), hc 2 (by omega), hc 3 (by omega), hc 4 (by omega), hc 5 (by omega)⟩
theorem cf_at {w : World} {A : Option Addr} {l : List Cf} (h : RdC w A l) (i : Nat) (hi : i < l.length) : ∃ b off, A = some ⟨b, off, none⟩ ∧ b < w.heap.size ∧ w.cell? ⟨b, off + i * 5, none⟩ = some (.int .i64 (ge l i).i) ∧ w.cell? ⟨b, off + i * 5 + 1, none⟩ = some (.int .i64 (ge l i).c) ∧ w.cell? ⟨b, off + i * 5 + 2, none⟩ = some (.int .i64 (ge l i).g) ∧ w.cell? ⟨b, off + i * 5 + 3, none⟩ = some (.int .i64 (ge l i).t) ∧ w.cell? ⟨b, off + i * 5 + 4, none⟩ = some (.int .i64 (ge l i).r) := by
  obtain ⟨b, off, e, hlt, hc⟩ := h i hi
  exact ⟨b, off, e, hlt, hc 0 (by omega), hc 1 (by omega), hc 2 (by omega), hc 3 (by omega), hc 4 (by omega)⟩
theorem gE_ge (l : List Le) (n : Nat) : gE l n = ge l n := rfl
/-- The digests of certificates and of entries. -/
noncomputable def dgC (c : Cf) : St := words 5 (nw [c.i, c.c, c.g, c.t, c.r] 5)
noncomputable def dgE (e : Le) : St := words 6 (nw [e.k, e.f.i, e.f.c, e.f.g, e.f.t, e.f.r] 6)
def itm (n : Int) : Bool := decide (0 ≤ n ∧ n ≤ 1000000)
theorem istime_any (n : Int) (w : World) : Calls Tryz.prog 66 #[.int .i64 n] w fun e w' => e = .returned (.bool (itm n)) ∧ w = w' := by
  go_enter Tryz.func66, Tryz.ntmps66
  go_wp2_with fail
  all_goals (go_ret; exact ⟨ret_bool (by rw [Bool.eq_iff_iff]; simp only [itm, decide_eq_true_eq, Bool.false_eq_true, true_iff, iff_true, false_iff, iff_false]; omega), by first | rfl | (repeat (first | with_reducible exact Below.refl _ _ | with_reducible refine bl_drewN ?_ _ | with_reducible refine Below.drew ?_ | with_reducible refine bl_alloc ?_ _ | with_reducible refine Below.alloc ?_ (by first | omega | (simp; done) | (simp; omega)) _ | with_reducible refine Below.setCell ?_ (by first | omega | (simp; done) | (simp; omega)) _ | with_reducible assumption))⟩)
theorem valid_any (c : Cf) (w : World) : Calls Tryz.prog 19 #[cfv c] w fun e w' => e = .returned (.bool (vld c)) ∧ Below w.heap.size w w' := by
  go_enter Tryz.func19, Tryz.ntmps19
  go_wp2_with (go_at_call 66; refine (istime_any _ _).mono ?_; rintro e w1 ⟨rfl, rfl⟩)
  all_goals (go_ret; exact ⟨ret_bool (by (try simp only [itm, decide_eq_true_eq, decide_eq_false_iff_not] at *); rw [Bool.eq_iff_iff]; simp only [vld, itm, decide_eq_true_eq, Bool.false_eq_true, true_iff, iff_true, false_iff, iff_false]; omega), by (repeat (first | with_reducible exact Below.refl _ _ | with_reducible refine bl_drewN ?_ _ | with_reducible refine Below.drew ?_ | with_reducible refine bl_alloc ?_ _ | with_reducible refine Below.alloc ?_ (by first | omega | (simp; done) | (simp; omega)) _ | with_reducible refine Below.setCell ?_ (by first | omega | (simp; done) | (simp; omega)) _ | with_reducible assumption))⟩)
theorem validentry_any (x : Le) (w : World) : Calls Tryz.prog 119 #[lev x] w fun e w' => e = .returned (.bool (if x.k = 0 then vld x.f else if x.k = 1 then rvk x.f else false)) ∧ Below w.heap.size w w' := by
  by_cases h0 : x.k = 0
  · have e0 : (x.k == 0) = true := by rw [h0]; rfl
    rw [if_pos h0]
    go_enter Tryz.func119, Tryz.ntmps119
    go_wp2_with fail
    refine (valid_any x.f _).mono ?_
    rintro e w1 ⟨rfl, hb⟩
    go_wp2_with fail
    go_ret
    exact ⟨rfl, bl_trans (by (repeat (first | with_reducible exact Below.refl _ _ | with_reducible refine bl_drewN ?_ _ | with_reducible refine Below.drew ?_ | with_reducible refine bl_alloc ?_ _ | with_reducible refine Below.alloc ?_ (by first | omega | (simp; done) | (simp; omega)) _ | with_reducible refine Below.setCell ?_ (by first | omega | (simp; done) | (simp; omega)) _ | with_reducible assumption))) hb⟩
  · have e0 : (x.k == 0) = false := beq_eq_false_iff_ne.2 h0
    rw [if_neg h0]
    by_cases h1 : x.k = 1
    · have e1 : (x.k == 1) = true := by rw [h1]; rfl
      rw [if_pos h1]
      go_enter Tryz.func119, Tryz.ntmps119
      go_wp2_with (go_at_call 66; refine (istime_any _ _).mono ?_; rintro e w1 ⟨rfl, rfl⟩)
      all_goals (go_ret; exact ⟨ret_bool (by (try simp only [itm, decide_eq_true_eq, decide_eq_false_iff_not] at *); rw [Bool.eq_iff_iff]; simp only [rvk, itm, decide_eq_true_eq, Bool.false_eq_true, true_iff, iff_true, false_iff, iff_false, beq_iff_eq]; omega), by (repeat (first | with_reducible exact Below.refl _ _ | with_reducible refine bl_drewN ?_ _ | with_reducible refine Below.drew ?_ | with_reducible refine bl_alloc ?_ _ | with_reducible refine Below.alloc ?_ (by first | omega | (simp; done) | (simp; omega)) _ | with_reducible refine Below.setCell ?_ (by first | omega | (simp; done) | (simp; omega)) _ | with_reducible assumption))⟩)
    · have e1 : (x.k == 1) = false := beq_eq_false_iff_ne.2 h1
      rw [if_neg h1]
      go_enter Tryz.func119, Tryz.ntmps119
      go_wp2_with fail
      go_ret
      exact ⟨rfl, by (repeat (first | with_reducible exact Below.refl _ _ | with_reducible refine bl_drewN ?_ _ | with_reducible refine Below.drew ?_ | with_reducible refine bl_alloc ?_ _ | with_reducible refine Below.alloc ?_ (by first | omega | (simp; done) | (simp; omega)) _ | with_reducible refine Below.setCell ?_ (by first | omega | (simp; done) | (simp; omega)) _ | with_reducible assumption))⟩
end Go.Proofs.YtdikoffppjoomaaGreat.Ct
