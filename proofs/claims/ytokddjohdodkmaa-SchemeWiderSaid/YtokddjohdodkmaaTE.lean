/- Walks: sumOfMax and Total of items, of the program; Check and Total of the reference. -/
import Derived.Test.YtokddjohdodkmaaTD
import Derived.WalkKit
import Derived.WalkSpells
import Derived.WalkLawsBesides
import Derived.Deep.QuietTactic
import Derived.BigQuiet
import Derived.Deep.Draws
import Derived.Deep.AppendLies
import Derived.Laws.OwnMore
import Derived.Laws.BytesArg
import Derived.Lib.Hide
import Derived.Deep.LoopGhost
namespace Go.Proofs.Ytokddjohdodkmaa.Tm
open Go.RowKit Go.Proofs.Ytokddjohdodkmaa.Mw
set_option linter.unusedVariables false
set_option linter.unusedSimpArgs false

set_option maxHeartbeats 400000 in
theorem sum_any (l : List Pt) (A : Option Addr) (c : Nat) (w : World) (hl : l.length ≤ 100) (hv : psOk l = true) (hr : RdP w A l) :
    Calls Try.prog 58 #[.slice A l.length c] w fun e w' => e = .returned (.int .i64 (sm l l.length)) ∧ Below w.heap.size w w' := by
  have Hv := Lib.hid hv
  clear hv
  go_enter Try.func58, Try.ntmps58
  go_wp2_with fail
  go_loopw [3, 8] (fun s i wr => ∃ k : Nat, k ≤ l.length ∧ i = .int .i64 k ∧ s = .int .i64 (sm l k) ∧ Below w.heap.size w wr) (fun _ i _ => l.length - (intOf i).toNat)
  case atStart => exact ⟨0, by omega, rfl, rfl, by (repeat (first | with_reducible exact Below.refl _ _ | with_reducible refine bl_drewN ?_ _ | with_reducible refine Below.drew ?_ | with_reducible refine bl_alloc ?_ _ | with_reducible refine Below.alloc ?_ (by first | omega | (simp; done) | (simp; omega)) _ | with_reducible refine Below.setCell ?_ (by first | omega | (simp; done) | (simp; omega)) _ | with_reducible assumption))⟩
  case round =>
    obtain ⟨k, hk, rfl, rfl, hb⟩ := hrel
    have hz := hb.size
    obtain ⟨q0, q1⟩ := sm_bd l Hv.out k hk
    by_cases hlt : k < l.length
    · obtain ⟨b, off, rfl, hbl, c0, c1, c2, c3, c4, c5⟩ := (hr.old hb).at k hlt
      obtain ⟨q2, q3⟩ := sm_bd l Hv.out (k + 1) hlt
      unfold sm at q2 q3
      go_wp2_with fail
      go_roundw
      case rel => exact ⟨k + 1, by omega, by go_num, rfl, by (repeat (first | with_reducible exact Below.refl _ _ | with_reducible refine bl_drewN ?_ _ | with_reducible refine Below.drew ?_ | with_reducible refine bl_alloc ?_ _ | with_reducible refine Below.alloc ?_ (by first | omega | (simp; done) | (simp; omega)) _ | with_reducible refine Below.setCell ?_ (by first | omega | (simp; done) | (simp; omega)) _ | with_reducible assumption))⟩
      case measure => simp [intOf]; omega
    · obtain rfl : k = l.length := by omega
      go_wp2_with fail
      go_ret
      exact ⟨rfl, hb⟩

theorem tot_0 {x : It} (h : chk x = 0) : tot x = sm x.ps x.ps.length := if_pos h
theorem tot_1 {x : It} (h : ¬ chk x = 0) : tot x = 0 := if_neg h

end Go.Proofs.Ytokddjohdodkmaa.Tm
