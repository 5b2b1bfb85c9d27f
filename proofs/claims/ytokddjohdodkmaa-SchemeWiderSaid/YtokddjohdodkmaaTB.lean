/- Walks: ValidPart, Cut, Check and Total of items, of the program and of the reference. -/
import Derived.Test.YtokddjohdodkmaaRows
import Derived.Test.YtokddjohdodkmaaTA
import Derived.WalkKit
import Derived.WalkSpells
import Derived.WalkLawsBesides
import Derived.Deep.QuietTactic
import Derived.BigQuiet
import Derived.Deep.Draws
import Derived.Deep.AppendLies
import Derived.Laws.OwnMore
import Derived.Laws.BytesArg
import Derived.Lib.Hide
import Derived.Deep.LoopGhost
namespace Go.Proofs.Ytokddjohdodkmaa.Tm
open Go.RowKit Go.Proofs.Ytokddjohdodkmaa.Mw
set_option linter.unusedVariables false
set_option linter.unusedSimpArgs false

set_option maxHeartbeats 400000 in
theorem vpart (p : Pt) (w : World) :
    Calls Try.prog 57 #[pv p] w fun e w' => e = .returned (.bool (vp p)) ∧ Below w.heap.size w w' := by
  go_enter Try.func57, Try.ntmps57
  go_wp2
  all_goals (go_ret; refine ⟨ret_bool ?_, by first | rfl | (repeat (first | with_reducible exact Below.refl _ _ | with_reducible refine bl_drewN ?_ _ | with_reducible refine Below.drew ?_ | with_reducible refine bl_alloc ?_ _ | with_reducible refine Below.alloc ?_ (by first | omega | (simp; done) | (simp; omega)) _ | with_reducible refine Below.setCell ?_ (by first | omega | (simp; done) | (simp; omega)) _ | with_reducible assumption))⟩; (try simp only [beq_iff_eq, beq_eq_false_iff_ne, bne_iff_ne, bne_eq_false_iff_eq, ne_eq] at *); rw [Bool.eq_iff_iff]; simp only [vp, decide_eq_true_eq, Bool.false_eq_true, true_iff, iff_true, false_iff, iff_false, beq_iff_eq, bne_iff_ne, ne_eq]; omega)
set_option maxHeartbeats 400000 in
theorem rvpart (p : Pt) (w : World) :
    Calls Try.prog 59 #[pv p] w fun e w' => e = .returned (.bool (vp p)) ∧ Below w.heap.size w w' := by
  go_enter Try.func59, Try.ntmps59
  go_wp2
  all_goals (go_ret; refine ⟨ret_bool ?_, by first | rfl | (repeat (first | with_reducible exact Below.refl _ _ | with_reducible refine bl_drewN ?_ _ | with_reducible refine Below.drew ?_ | with_reducible refine bl_alloc ?_ _ | with_reducible refine Below.alloc ?_ (by first | omega | (simp; done) | (simp; omega)) _ | with_reducible refine Below.setCell ?_ (by first | omega | (simp; done) | (simp; omega)) _ | with_reducible assumption))⟩; (try simp only [beq_iff_eq, beq_eq_false_iff_ne, bne_iff_ne, bne_eq_false_iff_eq, ne_eq] at *); rw [Bool.eq_iff_iff]; simp only [vp, decide_eq_true_eq, Bool.false_eq_true, true_iff, iff_true, false_iff, iff_false, beq_iff_eq, bne_iff_ne, ne_eq]; omega)
end Go.Proofs.Ytokddjohdodkmaa.Tm
