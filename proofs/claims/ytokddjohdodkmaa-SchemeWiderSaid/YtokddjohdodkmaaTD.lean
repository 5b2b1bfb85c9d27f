/- Walks: Check, sumOfMax and Total of items, of the program. -/
import Derived.Test.YtokddjohdodkmaaTC
import Derived.WalkKit
import Derived.WalkSpells
import Derived.WalkLawsBesides
import Derived.Deep.QuietTactic
import Derived.BigQuiet
import Derived.Deep.Draws
import Derived.Deep.AppendLies
import Derived.Laws.OwnMore
import Derived.Laws.BytesArg
import Derived.Lib.Hide
import Derived.Deep.LoopGhost
namespace Go.Proofs.Ytokddjohdodkmaa.Tm
open Go.RowKit Go.Proofs.Ytokddjohdodkmaa.Mw
set_option linter.unusedVariables false
set_option linter.unusedSimpArgs false

abbrev itc (x : It) (A : Option Addr) (c : Nat) (E : Option Addr) (d : Nat) : Array Value := #[.int .i64 x.id, .int .i64 x.ver, .string x.stem, .slice A x.ps.length c, .slice E x.en.length d]

end Go.Proofs.Ytokddjohdodkmaa.Tm
