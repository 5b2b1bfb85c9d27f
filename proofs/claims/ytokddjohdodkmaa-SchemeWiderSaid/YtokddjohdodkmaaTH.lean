/- Walks: Material of the program and of the reference; Ints; the sanity check of the statements of this layer. -/
import Derived.Test.YtokddjohdodkmaaTG
import Derived.WalkKit
import Derived.WalkSpells
import Derived.WalkLawsBesides
import Derived.Deep.QuietTactic
import Derived.BigQuiet
import Derived.Deep.Draws
import Derived.Deep.AppendLies
import Derived.Laws.OwnMore
import Derived.Laws.BytesArg
import Derived.Lib.Hide
import Derived.Deep.LoopGhost
namespace Go.Proofs.Ytokddjohdodkmaa.Tm
open Go.RowKit Go.Proofs.Ytokddjohdodkmaa.Mw
set_option linter.unusedVariables false
set_option linter.unusedSimpArgs false

/-- The ending is a slice that reads as a list of integers, in new memory. -/
def RetI (l : List Int) (w : World) (e : Ending) (w' : World) : Prop := ∃ A c, e = .returned (.slice A l.length c) ∧ RdI w' .i64 A l ∧ (∀ a, A = some a → w.heap.size ≤ a.block ∧ a.block < w'.heap.size) ∧ Below w.heap.size w w'

theorem eq_part (p q : Pt) (w : World) : (Op.equalIn 10000 49 (pv p) (pv q)).run Try.prog w = .ok (peq p q) w := by
  go_simp
  unfold peq
  by_cases h1 : p.k = q.k <;> by_cases h2 : p.m = q.m <;> by_cases h3 : p.t = q.t <;> by_cases h4 : p.o = q.o <;> by_cases h5 : p.n = q.n <;> by_cases h6 : p.y = q.y <;> simp [h1, h2, h3, h4, h5, h6]
theorem eq_part' (a b c d e f a' b' c' d' e' f' : Int) (w : World) : (Op.equalIn 10000 49 (.agg #[.int .i64 a, .int .i64 b, .int .i64 c, .int .i64 d, .int .i64 e, .int .i64 f]) (.agg #[.int .i64 a', .int .i64 b', .int .i64 c', .int .i64 d', .int .i64 e', .int .i64 f'])).run Try.prog w = .ok (peq ⟨a, b, c, d, e, f⟩ ⟨a', b', c', d', e', f'⟩) w :=
  eq_part ⟨a, b, c, d, e, f⟩ ⟨a', b', c', d', e', f'⟩ w
theorem infoInt : (Try.prog.info? 3).map (fun i => (i.zero, i.size, i.bytes)) = some (some (.int .i64 0), 1, 8) := by kernel_rfl

attribute [local go_sem ↓] eq_part'

theorem mt_yes {a b : List Pt} {k : Nat} (h : dif a b k = true) : mt a b (k + 1) = mt a b k ++ [(k : Int)] := by rw [mt, if_pos h]
theorem mt_no {a b : List Pt} {k : Nat} (h : dif a b k = false) : mt a b (k + 1) = mt a b k := by rw [mt, if_neg (by simp [h])]

end Go.Proofs.Ytokddjohdodkmaa.Tm
