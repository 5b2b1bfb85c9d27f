/- Walks: follow of the reference. -/
import Derived.Test.YtdikoffppjoomaaRG
import Derived.Test.YtdikoffppjoomaaRN
import Derived.Test.YtdikoffppjoomaaAM
import Derived.WalkKit
import Derived.WalkSpells
import Derived.WalkLawsBesides
import Derived.Deep.QuietTactic
import Derived.BigQuiet
import Derived.Deep.Draws
import Derived.Deep.AppendLies
import Derived.Laws.OwnMore
import Derived.Laws.BytesArg
import Derived.Lib.Hide
import Derived.Deep.LoopGhost
import Derived.Deep.RegionWith
import Derived.Deep.RegionHeld3
import Derived.Deep.CutBlock
import Derived.RegionTactic
namespace Go.Proofs.Ytdikoffppjoomaa.Tr
open Go.RowKit Go.Proofs.Ytdikoffppjoomaa.Dg
open Go.Proofs.Ytdikoffppjoomaa.Mw (I64 ret_int ret_bool Bk bl_trans own_ints)
set_option linter.unusedVariables false
set_option linter.unusedSimpArgs false
set_option maxRecDepth 100000

theorem bk_new2 (w : World) (o : Obj) (cs : Array Value) (T : TypeId) : Bk ((w.alloc o).alloc (.cells cs T)) (w.heap.size + 1) T cs := Mw.Bk.new' (by simp)

end Go.Proofs.Ytdikoffppjoomaa.Tr
