/- Walks: the digests of certificates and entries; Valid of the reference. -/
import Derived.Test.YtdikoffppjoomaaGreatCB
import Derived.Test.YtdikoffppjoomaaGreatRB
import Derived.WalkKit
import Derived.WalkSpells
import Derived.WalkLawsBesides
import Derived.Deep.QuietTactic
import Derived.BigQuiet
import Derived.Deep.Draws
import Derived.Deep.AppendLies
import Derived.Laws.OwnMore
import Derived.Laws.BytesArg
import Derived.Lib.Hide
import Derived.Deep.LoopGhost
import Derived.Carry
namespace Go.Proofs.YtdikoffppjoomaaGreat.Ct
open Go.RowKit Go.Proofs.YtdikoffppjoomaaGreat.Dg
open Go.Proofs.YtdikoffppjoomaaGreat.Tr (bk4)
open Go.Proofs.YtdikoffppjoomaaGreat.Mw (I64 ret_int ret_bool Bk bl_trans own_ints RdI RdR ge ge_lt gi)
set_option linter.unusedVariables false
set_option linter.unusedSimpArgs false
set_option maxRecDepth 100000

set_option maxHeartbeats 400000 in
theorem digest_any (c : Cf) (w : World) : Calls Tryz.prog 21 #[cfv c] w fun e w' => e = .returned (dv (dgC c)) ∧ Below w.heap.size w w' := by
  go_enter Tryz.func21, Tryz.ntmps21
  go_wp2_with fail
  refine (numbers_any 5 _ _ [c.i, c.c, c.g, c.t, c.r] _ (by simp) (RdI.bk (T := 3) (cs := #[.int .i64 c.i, .int .i64 c.c, .int .i64 c.g, .int .i64 c.t, .int .i64 c.r]) (by (repeat (first | ((with_reducible refine Mw.Bk.new' ?_); (first | rfl | (simp; done) | (simp; omega))) | with_reducible refine Mw.Bk.alloc ?_ _ | with_reducible refine Mw.Bk.drewN ?_ _ | with_reducible refine Mw.Bk.drew ?_ | with_reducible assumption))) rfl)).mono ?_
  rintro e w1 ⟨rfl, hb1⟩
  have hZ : Bk w1 (w.heap.size + 1) 35 #[.int .u32 0, .int .u32 0, .int .u32 0, .int .u32 0] := Mw.Bk.old (by (repeat (first | ((with_reducible refine Mw.Bk.new' ?_); (first | rfl | (simp; done) | (simp; omega))) | with_reducible refine Mw.Bk.alloc ?_ _ | with_reducible refine Mw.Bk.drewN ?_ _ | with_reducible refine Mw.Bk.drew ?_ | with_reducible assumption))) hb1
  have hc1 : Below w.heap.size w w1 := bl_trans (by (repeat (first | with_reducible exact Below.refl _ _ | with_reducible refine bl_drewN ?_ _ | with_reducible refine Below.drew ?_ | with_reducible refine bl_alloc ?_ _ | with_reducible refine Below.alloc ?_ (by first | omega | (simp; done) | (simp; omega)) _ | with_reducible refine Below.setCell ?_ (by first | omega | (simp; done) | (simp; omega)) _ | with_reducible assumption))) hb1
  clear hb1
  obtain ⟨⟨k0, k1, k2, k3⟩, f0, f1, f2, f3⟩ := bk4 hZ
  go_wp2_with fail
  refine bodyPost_ret (v := dv (dgC c)) (by simp [results, Tryz.results21, go_sem, k0, k1, k2, k3, dgC, dgE]) rfl ⟨rfl, ?_⟩
  (repeat (first | with_reducible exact Below.refl _ _ | with_reducible refine bl_drewN ?_ _ | with_reducible refine Below.drew ?_ | with_reducible refine bl_alloc ?_ _ | with_reducible refine Below.alloc ?_ (by first | omega | (simp; done) | (simp; omega)) _ | with_reducible refine Below.setCell ?_ (by first | omega | (simp; done) | (simp; omega)) _ | with_reducible assumption))
set_option maxHeartbeats 400000 in
theorem entry_any (x : Le) (w : World) : Calls Tryz.prog 31 #[lev x] w fun e w' => e = .returned (dv (dgE x)) ∧ Below w.heap.size w w' := by
  go_enter Tryz.func31, Tryz.ntmps31
  go_wp2_with fail
  refine (numbers_any 6 _ _ [x.k, x.f.i, x.f.c, x.f.g, x.f.t, x.f.r] _ (by simp) (RdI.bk (T := 3) (cs := #[.int .i64 x.k, .int .i64 x.f.i, .int .i64 x.f.c, .int .i64 x.f.g, .int .i64 x.f.t, .int .i64 x.f.r]) (by (repeat (first | ((with_reducible refine Mw.Bk.new' ?_); (first | rfl | (simp; done) | (simp; omega))) | with_reducible refine Mw.Bk.alloc ?_ _ | with_reducible refine Mw.Bk.drewN ?_ _ | with_reducible refine Mw.Bk.drew ?_ | with_reducible assumption))) rfl)).mono ?_
  rintro e w1 ⟨rfl, hb1⟩
  have hZ : Bk w1 (w.heap.size + 1) 35 #[.int .u32 0, .int .u32 0, .int .u32 0, .int .u32 0] := Mw.Bk.old (by (repeat (first | ((with_reducible refine Mw.Bk.new' ?_); (first | rfl | (simp; done) | (simp; omega))) | with_reducible refine Mw.Bk.alloc ?_ _ | with_reducible refine Mw.Bk.drewN ?_ _ | with_reducible refine Mw.Bk.drew ?_ | with_reducible assumption))) hb1
  have hc1 : Below w.heap.size w w1 := bl_trans (by (repeat (first | with_reducible exact Below.refl _ _ | with_reducible refine bl_drewN ?_ _ | with_reducible refine Below.drew ?_ | with_reducible refine bl_alloc ?_ _ | with_reducible refine Below.alloc ?_ (by first | omega | (simp; done) | (simp; omega)) _ | with_reducible refine Below.setCell ?_ (by first | omega | (simp; done) | (simp; omega)) _ | with_reducible assumption))) hb1
  clear hb1
  obtain ⟨⟨k0, k1, k2, k3⟩, f0, f1, f2, f3⟩ := bk4 hZ
  go_wp2_with fail
  refine bodyPost_ret (v := dv (dgE x)) (by simp [results, Tryz.results31, go_sem, k0, k1, k2, k3, dgC, dgE]) rfl ⟨rfl, ?_⟩
  (repeat (first | with_reducible exact Below.refl _ _ | with_reducible refine bl_drewN ?_ _ | with_reducible refine Below.drew ?_ | with_reducible refine bl_alloc ?_ _ | with_reducible refine Below.alloc ?_ (by first | omega | (simp; done) | (simp; omega)) _ | with_reducible refine Below.setCell ?_ (by first | omega | (simp; done) | (simp; omega)) _ | with_reducible assumption))
set_option maxHeartbeats 400000 in
theorem rdigest_any (c : Cf) (w : World) : Calls Tryz.prog 22 #[cfv c] w fun e w' => e = .returned (dv (dgC c)) ∧ Below w.heap.size w w' := by
  go_enter Tryz.func22, Tryz.ntmps22
  go_wp2_with fail
  refine (rnumbers_any 5 _ _ [c.i, c.c, c.g, c.t, c.r] _ (by simp) (RdI.bk (T := 3) (cs := #[.int .i64 c.i, .int .i64 c.c, .int .i64 c.g, .int .i64 c.t, .int .i64 c.r]) (by (repeat (first | ((with_reducible refine Mw.Bk.new' ?_); (first | rfl | (simp; done) | (simp; omega))) | with_reducible refine Mw.Bk.alloc ?_ _ | with_reducible refine Mw.Bk.drewN ?_ _ | with_reducible refine Mw.Bk.drew ?_ | with_reducible assumption))) rfl)).mono ?_
  rintro e w1 ⟨rfl, hb1⟩
  have hZ : Bk w1 (w.heap.size + 1) 35 #[.int .u32 0, .int .u32 0, .int .u32 0, .int .u32 0] := Mw.Bk.old (by (repeat (first | ((with_reducible refine Mw.Bk.new' ?_); (first | rfl | (simp; done) | (simp; omega))) | with_reducible refine Mw.Bk.alloc ?_ _ | with_reducible refine Mw.Bk.drewN ?_ _ | with_reducible refine Mw.Bk.drew ?_ | with_reducible assumption))) hb1
  have hc1 : Below w.heap.size w w1 := bl_trans (by (repeat (first | with_reducible exact Below.refl _ _ | with_reducible refine bl_drewN ?_ _ | with_reducible refine Below.drew ?_ | with_reducible refine bl_alloc ?_ _ | with_reducible refine Below.alloc ?_ (by first | omega | (simp; done) | (simp; omega)) _ | with_reducible refine Below.setCell ?_ (by first | omega | (simp; done) | (simp; omega)) _ | with_reducible assumption))) hb1
  clear hb1
  obtain ⟨⟨k0, k1, k2, k3⟩, f0, f1, f2, f3⟩ := bk4 hZ
  go_wp2_with fail
  refine bodyPost_ret (v := dv (dgC c)) (by simp [results, Tryz.results22, go_sem, k0, k1, k2, k3, dgC, dgE]) rfl ⟨rfl, ?_⟩
  (repeat (first | with_reducible exact Below.refl _ _ | with_reducible refine bl_drewN ?_ _ | with_reducible refine Below.drew ?_ | with_reducible refine bl_alloc ?_ _ | with_reducible refine Below.alloc ?_ (by first | omega | (simp; done) | (simp; omega)) _ | with_reducible refine Below.setCell ?_ (by first | omega | (simp; done) | (simp; omega)) _ | with_reducible assumption))
set_option maxHeartbeats 400000 in
theorem rentry_any (x : Le) (w : World) : Calls Tryz.prog 32 #[lev x] w fun e w' => e = .returned (dv (dgE x)) ∧ Below w.heap.size w w' := by
  go_enter Tryz.func32, Tryz.ntmps32
  go_wp2_with fail
  refine (rnumbers_any 6 _ _ [x.k, x.f.i, x.f.c, x.f.g, x.f.t, x.f.r] _ (by simp) (RdI.bk (T := 3) (cs := #[.int .i64 x.k, .int .i64 x.f.i, .int .i64 x.f.c, .int .i64 x.f.g, .int .i64 x.f.t, .int .i64 x.f.r]) (by (repeat (first | ((with_reducible refine Mw.Bk.new' ?_); (first | rfl | (simp; done) | (simp; omega))) | with_reducible refine Mw.Bk.alloc ?_ _ | with_reducible refine Mw.Bk.drewN ?_ _ | with_reducible refine Mw.Bk.drew ?_ | with_reducible assumption))) rfl)).mono ?_
  rintro e w1 ⟨rfl, hb1⟩
  have hZ : Bk w1 (w.heap.size + 1) 35 #[.int .u32 0, .int .u32 0, .int .u32 0, .int .u32 0] := Mw.Bk.old (by (repeat (first | ((with_reducible refine Mw.Bk.new' ?_); (first | rfl | (simp; done) | (simp; omega))) | with_reducible refine Mw.Bk.alloc ?_ _ | with_reducible refine Mw.Bk.drewN ?_ _ | with_reducible refine Mw.Bk.drew ?_ | with_reducible assumption))) hb1
  have hc1 : Below w.heap.size w w1 := bl_trans (by (repeat (first | with_reducible exact Below.refl _ _ | with_reducible refine bl_drewN ?_ _ | with_reducible refine Below.drew ?_ | with_reducible refine bl_alloc ?_ _ | with_reducible refine Below.alloc ?_ (by first | omega | (simp; done) | (simp; omega)) _ | with_reducible refine Below.setCell ?_ (by first | omega | (simp; done) | (simp; omega)) _ | with_reducible assumption))) hb1
  clear hb1
  obtain ⟨⟨k0, k1, k2, k3⟩, f0, f1, f2, f3⟩ := bk4 hZ
  go_wp2_with fail
  refine bodyPost_ret (v := dv (dgE x)) (by simp [results, Tryz.results32, go_sem, k0, k1, k2, k3, dgC, dgE]) rfl ⟨rfl, ?_⟩
  (repeat (first | with_reducible exact Below.refl _ _ | with_reducible refine bl_drewN ?_ _ | with_reducible refine Below.drew ?_ | with_reducible refine bl_alloc ?_ _ | with_reducible refine Below.alloc ?_ (by first | omega | (simp; done) | (simp; omega)) _ | with_reducible refine Below.setCell ?_ (by first | omega | (simp; done) | (simp; omega)) _ | with_reducible assumption))
def inB (n lo hi : Int) : Bool := decide (lo ≤ n ∧ n ≤ hi)
theorem rin_any (n lo hi : Int) (w : World) : Calls Tryz.prog 67 #[.int .i64 n, .int .i64 lo, .int .i64 hi] w fun e w' => e = .returned (.bool (inB n lo hi)) ∧ w = w' := by
  go_enter Tryz.func67, Tryz.ntmps67
  go_wp2_with fail
  all_goals (go_ret; exact ⟨ret_bool (by rw [Bool.eq_iff_iff]; simp only [inB, decide_eq_true_eq, Bool.false_eq_true, true_iff, iff_true, false_iff, iff_false]; omega), by first | rfl | (repeat (first | with_reducible exact Below.refl _ _ | with_reducible refine bl_drewN ?_ _ | with_reducible refine Below.drew ?_ | with_reducible refine bl_alloc ?_ _ | with_reducible refine Below.alloc ?_ (by first | omega | (simp; done) | (simp; omega)) _ | with_reducible refine Below.setCell ?_ (by first | omega | (simp; done) | (simp; omega)) _ | with_reducible assumption))⟩)
set_option maxHeartbeats 1000000 in
theorem rvalid_any (c : Cf) (w : World) : Calls Tryz.prog 20 #[cfv c] w fun e w' => e = .returned (.bool (vld c)) ∧ Below w.heap.size w w' := by
  go_enter Tryz.func20, Tryz.ntmps20
  go_wp2_with (go_at_call 67; refine (rin_any _ _ _ _).mono ?_; rintro e w1 ⟨rfl, rfl⟩)
  all_goals (go_ret; exact ⟨ret_bool (by (try simp only [inB, decide_eq_true_eq, decide_eq_false_iff_not] at *); rw [Bool.eq_iff_iff]; simp only [vld, inB, decide_eq_true_eq, Bool.false_eq_true, true_iff, iff_true, false_iff, iff_false]; omega), by (repeat (first | with_reducible exact Below.refl _ _ | with_reducible refine bl_drewN ?_ _ | with_reducible refine Below.drew ?_ | with_reducible refine bl_alloc ?_ _ | with_reducible refine Below.alloc ?_ (by first | omega | (simp; done) | (simp; omega)) _ | with_reducible refine Below.setCell ?_ (by first | omega | (simp; done) | (simp; omega)) _ | with_reducible assumption))⟩)
end Go.Proofs.YtdikoffppjoomaaGreat.Ct
namespace Go.Proofs.YtdikoffppjoomaaGreat.Ct
open Go.RowKit Go.Proofs.YtdikoffppjoomaaGreat.Dg
open Go.Proofs.YtdikoffppjoomaaGreat.Mw (I64 ret_int ret_bool Bk bl_trans own_ints RdI RdR ge ge_lt gi)
set_option linter.unusedVariables false
set_option linter.unusedSimpArgs false
set_option maxRecDepth 100000

noncomputable def RI : Value → Option (DataW Unit × List MemPlace) := plainElem Tryz.prog 3
noncomputable def RB : Value → Option (DataW Unit × List MemPlace) := plainElem Tryz.prog 4
def RC (v : Value) : Option (DataW Unit × List MemPlace) := match v with
  | .agg ⟨[.int .i64 a, .int .i64 b, .int .i64 c, .int .i64 d, .int .i64 e]⟩ => some (.agg [.lit (.int .i64 a), .lit (.int .i64 b), .lit (.int .i64 c), .lit (.int .i64 d), .lit (.int .i64 e)], [])
  | _ => none
theorem RC_mk (c : Cf) : RC (cfv c) = some (.agg [.lit (.int .i64 c.i), .lit (.int .i64 c.c), .lit (.int .i64 c.g), .lit (.int .i64 c.t), .lit (.int .i64 c.r)], []) := rfl
theorem RC_inv {v : Value} {d : DataW Unit} {p : List MemPlace} (h : RC v = some (d, p)) : ∃ a b c e f, v = .agg #[.int .i64 a, .int .i64 b, .int .i64 c, .int .i64 e, .int .i64 f] ∧ d = .agg [.lit (.int .i64 a), .lit (.int .i64 b), .lit (.int .i64 c), .lit (.int .i64 e), .lit (.int .i64 f)] := by
  unfold RC at h
  split at h
  · rename_i a b c e f
    cases h
    exact ⟨a, b, c, e, f, rfl, rfl⟩
  · cases h
theorem inj_C : Inj RC := by
  intro v v' d p p' h h'
  obtain ⟨a, b, c, e, f, rfl, rfl⟩ := RC_inv h
  obtain ⟨a', b', c', e', f', rfl, h2⟩ := RC_inv h'
  cases h2
  rfl
theorem RI_mk {n : Int} (h : I64 n) : RI (.int .i64 n) = some (.lit (.int .i64 n), []) := plainElem_int Tryz.underlying3 (wf64 h)
theorem RB_mk (b : Bool) : RB (.bool b) = some (.lit (.bool b), []) := plainElem_bool Tryz.underlying4 b
theorem inj_I : Inj RI := by
  intro v v' d p p' h h'
  obtain ⟨a, rfl, h1, _⟩ := plainElem_int_inv Tryz.underlying3 h
  obtain ⟨a', rfl, h2, _⟩ := plainElem_int_inv Tryz.underlying3 h'
  simp only [Prod.mk.injEq] at h1 h2
  have := h1.1.symm.trans h2.1
  cases this
  rfl
theorem RB_inv {v : Value} {d : DataW Unit} {p : List MemPlace} (h : RB v = some (d, p)) : ∃ b, v = .bool b ∧ d = .lit (.bool b) := by
  unfold RB plainElem at h
  rw [Tryz.underlying4] at h
  cases v <;> simp at h
  exact ⟨_, rfl, h.1.symm⟩
theorem inj_B : Inj RB := by
  intro v v' d p p' h h'
  obtain ⟨a, rfl, h1⟩ := RB_inv h
  obtain ⟨a', rfl, h2⟩ := RB_inv h'
  have := h1.symm.trans h2
  cases this
  rfl
/-- What the ledger's maps hold. -/
def ownf (L : List Le) (id : Int) : Option Value := (fnd L id).map fun c => .int .i64 c.c
def curf (L : List Le) (id : Int) : Option Value := if gon L id then none else (fnd L id).map cfv
def holf (L : List Le) (c : Int) : Option Value := if hol L c then some (.bool true) else none
/-- Block g is the ledger of the log L. -/
structure LM (w : World) (g : Nat) (L : List Le) (b1 b2 b3 : Nat) : Prop where
  blk : Bk w g 98 #[.int .i64 L.length, .int .i64 (lst L), .map (some b1), .map (some b2), .map (some b3)]
  m1 : MapF RI w b1 L.length (ownf L)
  m2 : MapF RC w b2 L.length (curf L)
  m3 : MapF RB w b3 L.length (holf L)
  n12 : b1 ≠ b2
  n13 : b1 ≠ b3
  n23 : b2 ≠ b3
  n1 : g ≠ b1
  n2 : g ≠ b2
  n3 : g ≠ b3
section
variable {w w' : World} {g b1 b2 b3 : Nat} {L : List Le}
theorem LM.old (h : LM w g L b1 b2 b3) (hb : Below w.heap.size w w') : LM w' g L b1 b2 b3 := ⟨h.blk.old hb, h.m1.old hb, h.m2.old hb, h.m3.old hb, h.n12, h.n13, h.n23, h.n1, h.n2, h.n3⟩
theorem LM.alloc (h : LM w g L b1 b2 b3) (o : Obj) : LM (w.alloc o) g L b1 b2 b3 := ⟨h.blk.alloc o, h.m1.alloc o, h.m2.alloc o, h.m3.alloc o, h.n12, h.n13, h.n23, h.n1, h.n2, h.n3⟩
theorem LM.drew (h : LM w g L b1 b2 b3) : LM w.drew g L b1 b2 b3 := ⟨h.blk, h.m1.drew, h.m2.drew, h.m3.drew, h.n12, h.n13, h.n23, h.n1, h.n2, h.n3⟩
theorem LM.far (h : LM w g L b1 b2 b3) {p : Addr} (h0 : g ≠ p.block) (h1 : b1 ≠ p.block) (h2 : b2 ≠ p.block) (h3 : b3 ≠ p.block) (u : Value) : LM (w.setCell p u) g L b1 b2 b3 := ⟨h.blk.far h0 u, h.m1.far h1 u, h.m2.far h2 u, h.m3.far h3 u, h.n12, h.n13, h.n23, h.n1, h.n2, h.n3⟩
theorem LM.at (h : LM w g L b1 b2 b3) : w.cell? ⟨g, 0, none⟩ = some (.int .i64 L.length) ∧ w.cell? ⟨g, 1, none⟩ = some (.int .i64 (lst L)) ∧ w.cell? ⟨g, 2, none⟩ = some (.map (some b1)) ∧ w.cell? ⟨g, 3, none⟩ = some (.map (some b2)) ∧ w.cell? ⟨g, 4, none⟩ = some (.map (some b3)) :=
  ⟨h.blk.cell 0, h.blk.cell 1, h.blk.cell 2, h.blk.cell 3, h.blk.cell 4⟩
theorem LM.lt (h : LM w g L b1 b2 b3) : g < w.heap.size ∧ b1 < w.heap.size ∧ b2 < w.heap.size ∧ b3 < w.heap.size := ⟨h.blk.lt, h.m1.lt, h.m2.lt, h.m3.lt⟩
theorem LM.own (h : LM w g L b1 b2 b3) {id : Int} (hi : I64 id) : (Instr.lookup 94 (.map (some b1)) (.int .i64 id) true).run Tryz.prog w = .ok (.tuple #[.int .i64 ((fnd L id).elim 0 Cf.c), .bool (fnd L id).isSome]) w := by
  rw [h.m1.look inj_I Tryz.underlying94 (Tryz.zeroValue3 w) (RI_mk (by unfold I64; omega)) hi]
  unfold ownf
  cases fnd L id <;> rfl
theorem LM.own1 (h : LM w g L b1 b2 b3) {id : Int} (hi : I64 id) : (Instr.lookup 94 (.map (some b1)) (.int .i64 id) false).run Tryz.prog w = .ok (.int .i64 ((fnd L id).elim 0 Cf.c)) w := by
  rw [h.m1.look1 inj_I Tryz.underlying94 (Tryz.zeroValue3 w) (RI_mk (by unfold I64; omega)) hi]
  unfold ownf
  cases fnd L id <;> rfl
theorem LM.cur (h : LM w g L b1 b2 b3) {id : Int} (hi : I64 id) : (Instr.lookup 95 (.map (some b2)) (.int .i64 id) true).run Tryz.prog w = .ok (.tuple #[cfv (if gon L id then default else (fnd L id).getD default), .bool (!gon L id && (fnd L id).isSome)]) w := by
  rw [h.m2.look inj_C Tryz.underlying95 (Tryz.zeroValue46 w) rfl hi]
  unfold curf
  cases gon L id <;> cases fnd L id <;> rfl
theorem LM.cur1 (h : LM w g L b1 b2 b3) {id : Int} (hi : I64 id) {c : Cf} (hf : fnd L id = some c) (hg : gon L id = false) : (Instr.lookup 95 (.map (some b2)) (.int .i64 id) false).run Tryz.prog w = .ok (cfv c) w := by
  rw [h.m2.look1 inj_C Tryz.underlying95 (Tryz.zeroValue46 w) rfl hi]
  unfold curf
  rw [hf, hg]; rfl
theorem LM.hol (h : LM w g L b1 b2 b3) {c : Int} (hi : I64 c) : (Instr.lookup 96 (.map (some b3)) (.int .i64 c) false).run Tryz.prog w = .ok (.bool (hol L c)) w := by
  rw [h.m3.look1 inj_B Tryz.underlying96 (Tryz.zeroValue4 w) (RB_mk false) hi]
  unfold holf
  cases Ct.hol L c <;> rfl
end
theorem MapF.made' {R : Value → Option (DataW Unit × List MemPlace)} {w : World} {b : Nat} (hb : b = w.heap.size) : MapF R (w.alloc (.map #[] 0)) b 0 fun _ => none := by subst hb; exact MapF.made w
theorem newledger_any (w : World) : Calls Tryz.prog 85 #[] w fun e w' => ∃ g b1 b2 b3, e = .returned (.pointer (some ⟨g, 0, none⟩)) ∧ LM w' g [] b1 b2 b3 ∧ w.heap.size ≤ g ∧ w.heap.size ≤ b1 ∧ w.heap.size ≤ b2 ∧ w.heap.size ≤ b3 ∧ Below w.heap.size w w' := by
  have hmm := @run_makeMap Tryz.prog
  go_enter Tryz.func85, Tryz.ntmps85
  go_wp2_with fail
  go_ret
  refine ⟨w.heap.size + 3, w.heap.size, w.heap.size + 1, w.heap.size + 2, rfl, ⟨?_, ?_, ?_, ?_, by omega, by omega, by omega, by omega, by omega, by omega⟩, by omega, by omega, by omega, by omega, by (repeat (first | with_reducible exact Below.refl _ _ | with_reducible refine bl_drewN ?_ _ | with_reducible refine Below.drew ?_ | with_reducible refine bl_alloc ?_ _ | with_reducible refine Below.alloc ?_ (by first | omega | (simp; done) | (simp; omega)) _ | with_reducible refine Below.setCell ?_ (by first | omega | (simp; done) | (simp; omega)) _ | with_reducible assumption))⟩
  · exact Mw.Bk.new' (by simp)
  · exact (((MapF.made w).alloc _).alloc _).alloc _
  · exact ((MapF.made' (by simp)).alloc _).alloc _
  · exact (MapF.made' (by simp)).alloc _
/-- The error of the certificate that is to go. -/
def cgo (L : List Le) (x : Le) : Int :=
  if x.k = 0 ∧ x.f.r = 0 then 0
  else match fnd L (if x.k = 0 then x.f.r else x.f.i) with
    | none => 4
    | some o => if x.k = 0 ∧ ¬ o.c = x.f.c then 4 else if gon L (if x.k = 0 then x.f.r else x.f.i) then 46 else 0
set_option maxHeartbeats 1000000 in
theorem checkgone_any (L : List Le) (x : Le) (g b1 b2 b3 : Nat) (w : World) (h : LM w g L b1 b2 b3) (hx : Le64 x) : Calls Tryz.prog 120 #[.pointer (some ⟨g, 0, none⟩), lev x] w fun e w' => e = .returned (.int .i64 (cgo L x)) ∧ Below w.heap.size w w' := by
  have h1 := h.alloc (.cells #[.int .i64 x.k, .int .i64 x.f.i, .int .i64 x.f.c, .int .i64 x.f.g, .int .i64 x.f.t, .int .i64 x.f.r] 54)
  obtain ⟨c0, c1, c2, c3, c4⟩ := h1.at
  have hlt := h.lt.1
  by_cases hk : x.k = 0
  · have k0 : (x.k == 0) = true := by rw [hk]; rfl
    by_cases hr : x.f.r = 0
    · have r0 : (x.f.r == 0) = true := by rw [hr]; rfl
      rw [show cgo L x = 0 from if_pos ⟨hk, hr⟩]
      clear h h1 hk hr
      go_enter Tryz.func120, Tryz.ntmps120
      go_wp2_with fail
      go_ret
      exact ⟨rfl, by (repeat (first | with_reducible exact Below.refl _ _ | with_reducible refine bl_drewN ?_ _ | with_reducible refine Below.drew ?_ | with_reducible refine bl_alloc ?_ _ | with_reducible refine Below.alloc ?_ (by first | omega | (simp; done) | (simp; omega)) _ | with_reducible refine Below.setCell ?_ (by first | omega | (simp; done) | (simp; omega)) _ | with_reducible assumption))⟩
    · have r0 : (x.f.r == 0) = false := beq_eq_false_iff_ne.2 hr
      have q1 := h1.own (id := x.f.r) hx.2.2.2.2.2
      have q2 := h1.cur (id := x.f.r) hx.2.2.2.2.2
      have hc : cgo L x = match fnd L x.f.r with | none => 4 | some o => if ¬ o.c = x.f.c then 4 else if gon L x.f.r then 46 else 0 := by
        unfold cgo
        rw [if_neg (fun h => hr h.2), if_pos hk]
        cases fnd L x.f.r with
        | none => rfl
        | some o => simp [hk]
      have Hc := Lib.hid hc
      clear h h1 hk hr hc
      cases hf : fnd L x.f.r with
      | none =>
        rw [hf] at q1
        have Hc2 : Hid (cgo L x = 4) := by have := Hc.out; rw [hf] at this; exact this
        rw [Hc2.out]
        clear q2 hf Hc Hc2
        go_enter Tryz.func120, Tryz.ntmps120
        go_wp2_with fail
        go_ret
        exact ⟨rfl, by (repeat (first | with_reducible exact Below.refl _ _ | with_reducible refine bl_drewN ?_ _ | with_reducible refine Below.drew ?_ | with_reducible refine bl_alloc ?_ _ | with_reducible refine Below.alloc ?_ (by first | omega | (simp; done) | (simp; omega)) _ | with_reducible refine Below.setCell ?_ (by first | omega | (simp; done) | (simp; omega)) _ | with_reducible assumption))⟩
      | some o =>
        rw [hf] at q1 q2
        have Hc2 : Hid (cgo L x = if ¬ o.c = x.f.c then 4 else if gon L x.f.r then 46 else 0) := by have := Hc.out; rw [hf] at this; exact this
        clear hf Hc
        by_cases ho : o.c = x.f.c
        · have o0 : (o.c != x.f.c) = false := by rw [ho]; simp
          cases hg : gon L x.f.r
          · rw [hg] at q2 Hc2
            rw [Hc2.out, if_neg (fun h => h ho), if_neg (by simp)]
            clear Hc2 ho hg
            go_enter Tryz.func120, Tryz.ntmps120
            go_wp2_with fail
            go_ret
            exact ⟨rfl, by (repeat (first | with_reducible exact Below.refl _ _ | with_reducible refine bl_drewN ?_ _ | with_reducible refine Below.drew ?_ | with_reducible refine bl_alloc ?_ _ | with_reducible refine Below.alloc ?_ (by first | omega | (simp; done) | (simp; omega)) _ | with_reducible refine Below.setCell ?_ (by first | omega | (simp; done) | (simp; omega)) _ | with_reducible assumption))⟩
          · rw [hg] at q2 Hc2
            rw [Hc2.out, if_neg (fun h => h ho), if_pos rfl]
            clear Hc2 ho hg
            go_enter Tryz.func120, Tryz.ntmps120
            go_wp2_with fail
            go_ret
            exact ⟨rfl, by (repeat (first | with_reducible exact Below.refl _ _ | with_reducible refine bl_drewN ?_ _ | with_reducible refine Below.drew ?_ | with_reducible refine bl_alloc ?_ _ | with_reducible refine Below.alloc ?_ (by first | omega | (simp; done) | (simp; omega)) _ | with_reducible refine Below.setCell ?_ (by first | omega | (simp; done) | (simp; omega)) _ | with_reducible assumption))⟩
        · have o0 : (o.c != x.f.c) = true := bne_iff_ne.2 ho
          rw [Hc2.out, if_pos ho]
          clear Hc2 q2 ho
          go_enter Tryz.func120, Tryz.ntmps120
          go_wp2_with fail
          go_ret
          exact ⟨rfl, by (repeat (first | with_reducible exact Below.refl _ _ | with_reducible refine bl_drewN ?_ _ | with_reducible refine Below.drew ?_ | with_reducible refine bl_alloc ?_ _ | with_reducible refine Below.alloc ?_ (by first | omega | (simp; done) | (simp; omega)) _ | with_reducible refine Below.setCell ?_ (by first | omega | (simp; done) | (simp; omega)) _ | with_reducible assumption))⟩
  · have k0 : (x.k == 0) = false := beq_eq_false_iff_ne.2 hk
    have q1 := h1.own (id := x.f.i) hx.2.1
    have q2 := h1.cur (id := x.f.i) hx.2.1
    have hc : cgo L x = match fnd L x.f.i with | none => 4 | some o => if gon L x.f.i then 46 else 0 := by
      unfold cgo
      rw [if_neg (fun h => hk h.1), if_neg hk]
      cases fnd L x.f.i with
      | none => rfl
      | some o => simp [hk]
    have Hc := Lib.hid hc
    clear h h1 hk hc
    cases hf : fnd L x.f.i with
    | none =>
      rw [hf] at q1
      have Hc2 : Hid (cgo L x = 4) := by have := Hc.out; rw [hf] at this; exact this
      rw [Hc2.out]
      clear q2 hf Hc Hc2
      go_enter Tryz.func120, Tryz.ntmps120
      go_wp2_with fail
      go_ret
      exact ⟨rfl, by (repeat (first | with_reducible exact Below.refl _ _ | with_reducible refine bl_drewN ?_ _ | with_reducible refine Below.drew ?_ | with_reducible refine bl_alloc ?_ _ | with_reducible refine Below.alloc ?_ (by first | omega | (simp; done) | (simp; omega)) _ | with_reducible refine Below.setCell ?_ (by first | omega | (simp; done) | (simp; omega)) _ | with_reducible assumption))⟩
    | some o =>
      rw [hf] at q1 q2
      have Hc2 : Hid (cgo L x = if gon L x.f.i then 46 else 0) := by have := Hc.out; rw [hf] at this; exact this
      clear hf Hc
      cases hg : gon L x.f.i
      · rw [hg] at q2 Hc2
        rw [Hc2.out, if_neg (by simp)]
        clear Hc2 hg
        go_enter Tryz.func120, Tryz.ntmps120
        go_wp2_with fail
        go_ret
        exact ⟨rfl, by (repeat (first | with_reducible exact Below.refl _ _ | with_reducible refine bl_drewN ?_ _ | with_reducible refine Below.drew ?_ | with_reducible refine bl_alloc ?_ _ | with_reducible refine Below.alloc ?_ (by first | omega | (simp; done) | (simp; omega)) _ | with_reducible refine Below.setCell ?_ (by first | omega | (simp; done) | (simp; omega)) _ | with_reducible assumption))⟩
      · rw [hg] at q2 Hc2
        rw [Hc2.out, if_pos rfl]
        clear Hc2 hg
        go_enter Tryz.func120, Tryz.ntmps120
        go_wp2_with fail
        go_ret
        exact ⟨rfl, by (repeat (first | with_reducible exact Below.refl _ _ | with_reducible refine bl_drewN ?_ _ | with_reducible refine Below.drew ?_ | with_reducible refine bl_alloc ?_ _ | with_reducible refine Below.alloc ?_ (by first | omega | (simp; done) | (simp; omega)) _ | with_reducible refine Below.setCell ?_ (by first | omega | (simp; done) | (simp; omega)) _ | with_reducible assumption))⟩
end Go.Proofs.YtdikoffppjoomaaGreat.Ct
