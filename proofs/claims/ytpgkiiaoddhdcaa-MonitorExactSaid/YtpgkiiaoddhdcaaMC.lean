/- Walks: rules: Check, Monitor; marks: Good: of the program and of the reference. -/
import Derived.Test.YtpgkiiaoddhdcaaMD
import Derived.Test.YtpgkiiaoddhdcaaMA
import Derived.Test.YtpgkiiaoddhdcaaMem
import Derived.WalkKit
import Derived.WalkSpells
import Derived.WalkLawsBesides
import Derived.Deep.QuietTactic
import Derived.BigQuiet
import Derived.Deep.Draws
import Derived.Deep.AppendLies
import Derived.Laws.OwnMore
import Derived.Laws.BytesArg
import Derived.Lib.Hide
import Derived.Deep.LoopGhost
import Derived.RegionTactic
namespace Go.Proofs.Ytpgkiiaoddhdcaa.Mo
open Go.RowKit Go.Proofs.Ytpgkiiaoddhdcaa.Mw Go.Proofs.Ytpgkiiaoddhdcaa.Dc
set_option linter.unusedVariables false

abbrev rv (r : Rl) : Value := .agg #[.int .i64 r.p, .int .i64 r.t, .int .i64 r.w, .int .i64 r.f]
abbrev rc (r : Rl) : Array Value := #[.int .i64 r.p, .int .i64 r.t, .int .i64 r.w, .int .i64 r.f]
theorem bk4 {w : World} {g : Nat} {T : TypeId} {a b c d : Value} (h : Bk w g T #[a, b, c, d]) : (w.cell? ⟨g, 0, none⟩ = some a ∧ w.cell? ⟨g, 1, none⟩ = some b ∧ w.cell? ⟨g, 2, none⟩ = some c ∧ w.cell? ⟨g, 3, none⟩ = some d) ∧ w.frozen? ⟨g, 0, none⟩ = false ∧ w.frozen? ⟨g, 1, none⟩ = false ∧ w.frozen? ⟨g, 2, none⟩ = false ∧ w.frozen? ⟨g, 3, none⟩ = false := ⟨⟨h.cell 0, h.cell 1, h.cell 2, h.cell 3⟩, h.frozen 0, h.frozen 1, h.frozen 2, h.frozen 3⟩
/-- The error of Check. -/
def cke (r : Rl) : Int := if chk r = true then 0 else 2
theorem cke_yes {r : Rl} (h : chk r = true) : cke r = 0 := if_pos h
theorem cke_no {r : Rl} (h : chk r = false) : cke r = 2 := if_neg (by simp [h])
/-- A score. -/
def isc (n : Int) : Bool := decide (0 ≤ n ∧ n ≤ 200)
theorem score_any (n : Int) (w : World) : Calls Try.prog 26 #[.int .i64 n] w fun e w' => e = .returned (.bool (isc n)) ∧ w = w' := by
  go_enter Try.func26, Try.ntmps26
  go_wp2_with fail
  all_goals (go_ret; exact ⟨ret_bool (by rw [Bool.eq_iff_iff]; simp only [isc, decide_eq_true_eq, Bool.false_eq_true, true_iff, iff_true, false_iff, iff_false]; omega), by first | rfl | (repeat (first | with_reducible exact Below.refl _ _ | with_reducible refine bl_drewN ?_ _ | with_reducible refine Below.drew ?_ | with_reducible refine bl_alloc ?_ _ | with_reducible refine Below.alloc ?_ (by first | omega | (simp; done) | (simp; omega)) _ | with_reducible refine Below.setCell ?_ (by first | omega | (simp; done) | (simp; omega)) _ | with_reducible assumption))⟩)
theorem no_of {r : Rl} (h : ¬ (0 ≤ r.p ∧ r.p ≤ 200 ∧ 0 ≤ r.t ∧ r.t ≤ 200 ∧ 1 ≤ r.w ∧ r.w ≤ 20 ∧ 1 ≤ r.f ∧ r.f ≤ r.w)) : cke r = 2 := cke_no (decide_eq_false h)

set_option maxHeartbeats 1000000 in
theorem check_any (r : Rl) (w : World) : Calls Try.prog 14 #[rv r] w fun e w' => e = .returned (.int .i64 (cke r)) ∧ Below w.heap.size w w' := by
  cases hp : isc r.p
  · have He : Hid (cke r = 2) := no_of (fun h => by have := of_decide_eq_false hp; omega)
    go_enter Try.func14, Try.ntmps14
    go_wp2_with (go_at_call 26; refine (score_any _ _).mono ?_; rintro e w' ⟨rfl, rfl⟩)
    go_ret
    exact ⟨ret_int He.out.symm, by (repeat (first | with_reducible exact Below.refl _ _ | with_reducible refine bl_drewN ?_ _ | with_reducible refine Below.drew ?_ | with_reducible refine bl_alloc ?_ _ | with_reducible refine Below.alloc ?_ (by first | omega | (simp; done) | (simp; omega)) _ | with_reducible refine Below.setCell ?_ (by first | omega | (simp; done) | (simp; omega)) _ | with_reducible assumption))⟩
  cases ht : isc r.t
  · have He : Hid (cke r = 2) := no_of (fun h => by have := of_decide_eq_false ht; omega)
    go_enter Try.func14, Try.ntmps14
    go_wp2_with (go_at_call 26; refine (score_any _ _).mono ?_; rintro e w' ⟨rfl, rfl⟩)
    go_ret
    exact ⟨ret_int He.out.symm, by (repeat (first | with_reducible exact Below.refl _ _ | with_reducible refine bl_drewN ?_ _ | with_reducible refine Below.drew ?_ | with_reducible refine bl_alloc ?_ _ | with_reducible refine Below.alloc ?_ (by first | omega | (simp; done) | (simp; omega)) _ | with_reducible refine Below.setCell ?_ (by first | omega | (simp; done) | (simp; omega)) _ | with_reducible assumption))⟩
  have h1 := of_decide_eq_true hp
  have h2 := of_decide_eq_true ht
  by_cases hw : 1 ≤ r.w ∧ r.w ≤ 20 ∧ 1 ≤ r.f ∧ r.f ≤ r.w
  · obtain ⟨a, b, c, d⟩ := hw
    have He : Hid (cke r = 0) := cke_yes (decide_eq_true ⟨h1.1, h1.2, h2.1, h2.2, a, b, c, d⟩)
    clear h1 h2
    go_enter Try.func14, Try.ntmps14
    go_wp2_with (go_at_call 26; refine (score_any _ _).mono ?_; rintro e w' ⟨rfl, rfl⟩)
    go_ret
    exact ⟨ret_int He.out.symm, by (repeat (first | with_reducible exact Below.refl _ _ | with_reducible refine bl_drewN ?_ _ | with_reducible refine Below.drew ?_ | with_reducible refine bl_alloc ?_ _ | with_reducible refine Below.alloc ?_ (by first | omega | (simp; done) | (simp; omega)) _ | with_reducible refine Below.setCell ?_ (by first | omega | (simp; done) | (simp; omega)) _ | with_reducible assumption))⟩
  · have He : Hid (cke r = 2) := no_of (fun h => hw h.2.2.2.2)
    clear h1 h2
    go_enter Try.func14, Try.ntmps14
    go_wp2_with (go_at_call 26; refine (score_any _ _).mono ?_; rintro e w' ⟨rfl, rfl⟩)
    all_goals (first | (exfalso; omega) | (go_ret; exact ⟨ret_int He.out.symm, by (repeat (first | with_reducible exact Below.refl _ _ | with_reducible refine bl_drewN ?_ _ | with_reducible refine Below.drew ?_ | with_reducible refine bl_alloc ?_ _ | with_reducible refine Below.alloc ?_ (by first | omega | (simp; done) | (simp; omega)) _ | with_reducible refine Below.setCell ?_ (by first | omega | (simp; done) | (simp; omega)) _ | with_reducible assumption))⟩))

set_option maxHeartbeats 1000000 in
theorem rcheck_any (r : Rl) (w : World) : Calls Try.prog 15 #[rv r] w fun e w' => e = .returned (.int .i64 (cke r)) ∧ Below w.heap.size w w' := by
  by_cases hw : 0 ≤ r.p ∧ r.p ≤ 200 ∧ 0 ≤ r.t ∧ r.t ≤ 200 ∧ 1 ≤ r.w ∧ r.w ≤ 20 ∧ 1 ≤ r.f ∧ r.f ≤ r.w
  · obtain ⟨a, b, c, d, e, f, g, h⟩ := hw
    have He : Hid (cke r = 0) := cke_yes (decide_eq_true ⟨a, b, c, d, e, f, g, h⟩)
    go_enter Try.func15, Try.ntmps15
    go_wp2_with fail
    go_ret
    exact ⟨ret_int He.out.symm, by (repeat (first | with_reducible exact Below.refl _ _ | with_reducible refine bl_drewN ?_ _ | with_reducible refine Below.drew ?_ | with_reducible refine bl_alloc ?_ _ | with_reducible refine Below.alloc ?_ (by first | omega | (simp; done) | (simp; omega)) _ | with_reducible refine Below.setCell ?_ (by first | omega | (simp; done) | (simp; omega)) _ | with_reducible assumption))⟩
  · have He : Hid (cke r = 2) := no_of hw
    go_enter Try.func15, Try.ntmps15
    go_wp2_with fail
    all_goals (first | (exfalso; omega) | (go_ret; exact ⟨ret_int He.out.symm, by (repeat (first | with_reducible exact Below.refl _ _ | with_reducible refine bl_drewN ?_ _ | with_reducible refine Below.drew ?_ | with_reducible refine bl_alloc ?_ _ | with_reducible refine Below.alloc ?_ (by first | omega | (simp; done) | (simp; omega)) _ | with_reducible refine Below.setCell ?_ (by first | omega | (simp; done) | (simp; omega)) _ | with_reducible assumption))⟩))
theorem check_yes (r : Rl) (h : chk r = true) (w : World) : Calls Try.prog 14 #[rv r] w fun e w' => e = .returned (.int .i64 0) ∧ Below w.heap.size w w' := by
  have := check_any r w; rwa [cke_yes h] at this
theorem check_no (r : Rl) (h : chk r = false) (w : World) : Calls Try.prog 14 #[rv r] w fun e w' => e = .returned (.int .i64 2) ∧ Below w.heap.size w w' := by
  have := check_any r w; rwa [cke_no h] at this
theorem rcheck_yes (r : Rl) (h : chk r = true) (w : World) : Calls Try.prog 15 #[rv r] w fun e w' => e = .returned (.int .i64 0) ∧ Below w.heap.size w w' := by
  have := rcheck_any r w; rwa [cke_yes h] at this
theorem rcheck_no (r : Rl) (h : chk r = false) (w : World) : Calls Try.prog 15 #[rv r] w fun e w' => e = .returned (.int .i64 2) ∧ Below w.heap.size w w' := by
  have := rcheck_any r w; rwa [cke_no h] at this

/-- A rule off the dice: it is right. -/
def DR (tp : Nat) (w : World) (e : Ending) (w' : World) : Prop := ∃ r : Rl, chk r = true ∧ r.p ≤ 1 ∧ r.t ≤ 2 ∧ r.w ≤ 3 ∧ e = .returned (rv r) ∧ Di w' tp ∧ w.grownBy w' (some tp)
set_option maxHeartbeats 1000000 in
theorem monitor_any (tp : Nat) (w : World) (ht : Di w tp) : Calls Try.prog 11 #[.pointer (some ⟨tp, 0, none⟩)] w (DR tp w) := by
  have hlt := ht.lt
  have hR : Bk (w.alloc (.cells #[.int .i64 0, .int .i64 0, .int .i64 0, .int .i64 0] 24)) w.heap.size 24 #[.int .i64 0, .int .i64 0, .int .i64 0, .int .i64 0] := Bk.new' rfl
  have hT := ht.alloc (.cells #[.int .i64 0, .int .i64 0, .int .i64 0, .int .i64 0] 24)
  have hG : w.grownBy (w.alloc (.cells #[.int .i64 0, .int .i64 0, .int .i64 0, .int .i64 0] 24)) (some tp) := gb_alloc (gb_refl _ _) _
  go_enter Try.func11, Try.ntmps11
  go_wp2_with fail
  refine (next_any tp 3 _ hT (by omega) (by omega)).mono ?_
  rintro e w1 ⟨a, ⟨a0, a1⟩, rfl, hT1, hg1⟩
  have hR1 := hR.kept hg1 (by omega)
  have hG1 := gb_trans hG hg1
  clear hT hG hR hg1
  go_wp2_with fail
  refine (next_any tp 2 _ hT1 (by omega) (by omega)).mono ?_
  rintro e w2 ⟨b, ⟨b0, b1⟩, rfl, hT2, hg2⟩
  have hR2 := hR1.kept hg2 (by omega)
  have hG2 := gb_trans hG1 hg2
  clear hT1 hG1 hR1 hg2
  go_wp2_with fail
  refine (next_any tp 3 _ hT2 (by omega) (by omega)).mono ?_
  rintro e w3 ⟨c, ⟨c0, c1⟩, rfl, hT3, hg3⟩
  have hR3 := hR2.kept hg3 (by omega)
  have hG3 := gb_trans hG2 hg3
  clear hT2 hG2 hR2 hg3
  go_wp2_with fail
  refine (next_any tp (1 + a) _ hT3 (by omega) (by omega)).mono ?_
  rintro e w4 ⟨d, ⟨d0, d1⟩, rfl, hT4, hg4⟩
  have hR4 := hR3.kept hg4 (by omega)
  have hG4 := gb_trans hG3 hg4
  clear hT3 hG3 hR3 hg4
  obtain ⟨⟨k0, k1, k2, k3⟩, f0, f1, f2, f3⟩ := bk4 hR4
  go_wp2_with fail
  refine bodyPost_ret (v := rv ⟨b, c, 1 + a, 1 + d⟩) (by simp [results, Try.results11, go_sem, k0, k1, k2, k3]) rfl ⟨⟨b, c, 1 + a, 1 + d⟩, decide_eq_true (by simp only; omega), by simp only; omega, by simp only; omega, by simp only; omega, rfl, ?_, ?_⟩
  · exact (((hT4.far (by simp; omega) _).far (by simp; omega) _).far (by simp; omega) _).far (by simp; omega) _
  · exact gb_set (gb_set (gb_set (gb_set hG4 (.inr (by simp)) _) (.inr (by simp)) _) (.inr (by simp)) _) (.inr (by simp)) _
end Go.Proofs.Ytpgkiiaoddhdcaa.Mo
