/- Walks: printable, validEnemies, Check, Total of items, of the program. -/
import Derived.Test.YtokddjohdodkmaaTB
import Derived.WalkKit
import Derived.WalkSpells
import Derived.WalkLawsBesides
import Derived.Deep.QuietTactic
import Derived.BigQuiet
import Derived.Deep.Draws
import Derived.Deep.AppendLies
import Derived.Laws.OwnMore
import Derived.Laws.BytesArg
import Derived.Lib.Hide
import Derived.Deep.LoopGhost
namespace Go.Proofs.Ytokddjohdodkmaa.Tm
open Go.RowKit Go.Proofs.Ytokddjohdodkmaa.Mw
set_option linter.unusedVariables false
set_option linter.unusedSimpArgs false

theorem en_yes {id : Int} {l : List Int} {k : Nat} (h1 : isn (gi l k) = true) (h2 : (gi l k == id) = false) (h3 : k = 0 ∨ gi l (k - 1) < gi l k) : enAt id l k = true := by
  have := decide_eq_true_iff.1 h1
  exact decide_eq_true ⟨this.1, this.2, by simpa using h2, h3⟩
theorem en_no1 {id : Int} {l : List Int} {k : Nat} (h1 : isn (gi l k) = false) : enAt id l k = false := by
  have := decide_eq_false_iff_not.1 h1
  exact decide_eq_false (fun h => this ⟨h.1, h.2.1⟩)
theorem en_no2 {id : Int} {l : List Int} {k : Nat} (h2 : (gi l k == id) = true) : enAt id l k = false :=
  decide_eq_false (fun h => h.2.2.1 (by simpa using h2))
theorem en_no3 {id : Int} {l : List Int} {k : Nat} (h3 : ¬ k = 0) (h4 : ¬ gi l (k - 1) < gi l k) : enAt id l k = false :=
  decide_eq_false (fun h => by have := h.2.2.2; omega)
theorem sub_at (k : Nat) (h : ¬ k = 0) : ((k : Int) - 1).toNat = k - 1 := by omega

end Go.Proofs.Ytokddjohdodkmaa.Tm
