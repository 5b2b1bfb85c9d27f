/- Walk: the statement ItemPapersLong. -/
import Derived.Test.YtokddjohdodkmaaTQ
import Derived.Test.YtokddjohdodkmaaTP
import Derived.Test.YtokddjohdodkmaaMem
import Derived.WalkKit
import Derived.WalkSpells
import Derived.WalkLawsBesides
import Derived.Deep.QuietTactic
import Derived.BigQuiet
import Derived.Deep.Draws
import Derived.Deep.AppendLies
import Derived.Laws.OwnMore
import Derived.Laws.BytesArg
import Derived.Lib.Hide
import Derived.Deep.LoopGhost
import Derived.Deep.RegionLaw
import Derived.Deep.AppendLies
import Derived.Deep.DeepCutAuto
import Derived.IntWalk
namespace Go.Proofs.Ytokddjohdodkmaa.Tm
open Go.RowKit Go.Proofs.Ytokddjohdodkmaa.Mw
set_option linter.unusedVariables false
set_option linter.unusedSimpArgs false

theorem infoPart' : (Try.prog.info? 49).map (fun i => (i.zero, i.size, i.bytes)) = some (some (pv ⟨0, 0, 0, 0, 0, 0⟩), 6, 48) := by kernel_rfl
theorem news_part' {w : World} {g : Nat} {T : TypeId} (p : Pt) (h : Bk w g T (pl p).toArray) : ∀ j u, (pl p)[j]? = some u → w.cell? ((⟨g, 0, none⟩ : Addr).add j) = some u := World.news_of_block h
theorem pl_one' (p : Pt) : ∀ u ∈ pl p, u.oneCell' = true := by simp [pl, Value.oneCell']
theorem bk3 {w : World} {g : Nat} {T : TypeId} {a b c : Value} (h : Bk w g T #[a, b, c]) : (w.cell? ⟨g, 0, none⟩ = some a ∧ w.cell? ⟨g, 1, none⟩ = some b ∧ w.cell? ⟨g, 2, none⟩ = some c) ∧ w.frozen? ⟨g, 0, none⟩ = false ∧ w.frozen? ⟨g, 1, none⟩ = false ∧ w.frozen? ⟨g, 2, none⟩ = false :=
  ⟨⟨h.cell 0, h.cell 1, h.cell 2⟩, h.frozen 0, h.frozen 1, h.frozen 2⟩
theorem RdP.ext' {w : World} {A : Option Addr} {l : List Pt} (h : RdP w A l) (x : Mm.Ex) : RdP (Mm.ext w x) A l := h.old (Mm.ext_below w x)
section
variable (c v : Int) (A : Option Addr) (l : List Pt) (k : Nat) (w : World) (hl : l.length ≤ 1000000) (hr : RdP w A l)
include hl hr
theorem vpaper_i : Calls Try.prog 51 #[.agg #[.int .i64 c, .int .i64 v, .slice A l.length k]] w fun e w' => e = .returned (.bool (vpp c v l)) ∧ Below w.heap.size w w' := vpaper_any c v A l k w hl hr
theorem rvpaper_i : Calls Try.prog 53 #[.agg #[.int .i64 c, .int .i64 v, .slice A l.length k]] w fun e w' => e = .returned (.bool (vpp c v l)) ∧ Below w.heap.size w w' := rvpaper_any c v A l k w hl hr
end

end Go.Proofs.Ytokddjohdodkmaa.Tm
