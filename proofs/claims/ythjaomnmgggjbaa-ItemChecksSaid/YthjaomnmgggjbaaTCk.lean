/- Walk: the statement ItemChecks. -/
import Derived.Test.YthjaomnmgggjbaaTYn
import Derived.Test.YthjaomnmgggjbaaTI
import Derived.Test.YthjaomnmgggjbaaRQ
import Derived.WalkKit
import Derived.WalkSpells
import Derived.WalkLawsBesides
import Derived.Deep.QuietTactic
import Derived.BigQuiet
import Derived.Deep.Draws
import Derived.Deep.AppendLies
import Derived.Laws.OwnMore
import Derived.Laws.BytesArg
import Derived.Lib.Hide
import Derived.Deep.LoopGhost
namespace Go.Proofs.Ythjaomnmgggjbaa.Tm
open Go.RowKit Go.Proofs.Ythjaomnmgggjbaa.Mw
open Go.Proofs.Ythjaomnmgggjbaa.Mm (RC)
set_option linter.unusedVariables false

set_option maxHeartbeats 2000000 in
theorem checks_any (l : List Int) (B : Option Addr) (cB : Nat) (w : World) (hl : l.length ≤ maxLen) (hlc : l.length ≤ cB) (hi : ∀ n ∈ l, I64 n) (hB : RdI w .i64 B l) :
    Calls Try.prog 4 #[.slice B l.length cB] w fun e w' => e = .returned (.bool true) ∧ Below w.heap.size w w' := by
  go_enter Try.func4, Try.ntmps4
  go_wp2_with fail
  refine (new_any l B cB _ hB hl hlc hi).mono ?_
  rintro e w1 ⟨rfl, ht1, hb1⟩
  have hlt1 := ht1.lt
  clear hB hi
  unfold maxLen at hl
  go_wp2_with fail
  refine (next_any w.heap.size 6 _ ht1 (by omega) (by omega)).mono ?_
  rintro e w2 ⟨v, hv, rfl, ht2, hg2⟩
  have hc2 : Below w.heap.size w w2 := bl_gb hb1 hg2 (Nat.le_refl _)
  clear hg2 ht1 hb1 hv
  go_wp2_with fail
  refine (range_any w.heap.size 1 8 _ ht2 (by omega) (by omega) (by omega)).mono ?_
  rintro e w3 ⟨u, hu, rfl, ht3, hg3⟩
  have hc3 : Below w.heap.size w w3 := bl_gb hc2 hg3 (Nat.le_refl _)
  clear hg3 ht2 hc2 hu
  go_wp2_with fail
  refine (item_any w.heap.size v u 2 _ ht3 (by omega)).mono ?_
  rintro e w4 ⟨x, A, c, E, d, hx, hA, hE, hv, rfl, ht4, hg4⟩
  have hc4 : Below w.heap.size w w4 := bl_gb hc3 hg4 (Nat.le_refl _)
  clear hg4 ht3 hc3 hA hE hv ht4
  have hx' := hx.old ((Below.refl _ _).alloc (Nat.le_refl _) (.cells (itc x A c E d) 33))
  have R1 : RC 19 #[iv x A c E d] (w4.alloc (.cells (itc x A c E d) 33)) (.int .i64 (chk x)) := RC.of fun W hW => check_any x A c E d W (hx'.old hW)
  have R2 : RC 20 #[iv x A c E d] (w4.alloc (.cells (itc x A c E d) 33)) (.int .i64 (chk x)) := RC.of fun W hW => rcheck_any x A c E d W (hx'.old hW)
  have R3 : RC 21 #[iv x A c E d] (w4.alloc (.cells (itc x A c E d) 33)) (.int .i64 (tot x)) := RC.of fun W hW => total_any x A c E d W (hx'.old hW)
  have R4 : RC 22 #[iv x A c E d] (w4.alloc (.cells (itc x A c E d) 33)) (.int .i64 (tot x)) := RC.of fun W hW => rtotal_any x A c E d W (hx'.old hW)
  have R5 : RC 14 #[] (w4.alloc (.cells (itc x A c E d) 33)) (.bool true) := RC.of fun W _ => awake_any W
  clear hx hx'
  generalize chk x = a at R1 R2
  generalize tot x = b at R3 R4
  go_wp2_with fail
  refine Mm.region_ext (by kernel_rfl) (by kernel_rfl) ?_; (repeat (first | go_big_quiet_step ((exact Mm.RC.call (by with_reducible assumption) _)) | quiet_step ((exact Mm.RC.call (by with_reducible assumption) _)))); refine wpQuiet_nil ?_
  intro w5 hb5
  go_wp2_with fail
  go_ret
  exact ⟨rfl, bl_trans (bl_alloc hc4 _) hb5⟩
end Go.Proofs.Ythjaomnmgggjbaa.Tm
