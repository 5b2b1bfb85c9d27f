/- Walks: Check and Total of items, of the reference. -/
import Derived.Test.YtokddjohdodkmaaTE
import Derived.WalkKit
import Derived.WalkSpells
import Derived.WalkLawsBesides
import Derived.Deep.QuietTactic
import Derived.BigQuiet
import Derived.Deep.Draws
import Derived.Deep.AppendLies
import Derived.Laws.OwnMore
import Derived.Laws.BytesArg
import Derived.Lib.Hide
import Derived.Deep.LoopGhost
import Derived.IntWalk
namespace Go.Proofs.Ytokddjohdodkmaa.Tm
open Go.RowKit Go.Proofs.Ytokddjohdodkmaa.Mw
set_option linter.unusedVariables false
set_option linter.unusedSimpArgs false

theorem isn_yes {n : Int} (h : isn n = true) : decide (n < 0) = false ∧ decide (9999 < n) = false := by
  have := decide_eq_true_iff.1 h
  constructor <;> (simp; omega)

end Go.Proofs.Ytokddjohdodkmaa.Tm
