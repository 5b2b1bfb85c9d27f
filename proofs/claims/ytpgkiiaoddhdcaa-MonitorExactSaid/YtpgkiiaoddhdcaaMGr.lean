/- Walk: Valid of the reference. -/
import Derived.Test.YtpgkiiaoddhdcaaMG
import Derived.WalkKit
import Derived.WalkSpells
import Derived.WalkLawsBesides
import Derived.Deep.QuietTactic
import Derived.BigQuiet
import Derived.Deep.Draws
import Derived.Deep.AppendLies
import Derived.Laws.OwnMore
import Derived.Laws.BytesArg
import Derived.Lib.Hide
import Derived.Deep.LoopGhost
namespace Go.Proofs.Ytpgkiiaoddhdcaa.Mo
open Go.RowKit Go.Proofs.Ytpgkiiaoddhdcaa.Mw Go.Proofs.Ytpgkiiaoddhdcaa.Dc
set_option linter.unusedVariables false

set_option maxHeartbeats 1000000 in
theorem rvalid_any (r : Rl) (l : List Bool) (A : Option Addr) (c : Nat) (s : Bool) (w : World) (hl : l.length ≤ 1000000) (hr : RdB w A l) :
    Calls Try.prog 19 #[rv r, wv A l c s] w fun e w' => e = .returned (.bool (vld r l s)) ∧ Below w.heap.size w w' := by
  have hr' := Lib.hid ((hr.alloc (.cells (rc r) 24)).alloc (.cells (wc A l c s) 27))
  clear hr
  cases hc : chk r
  · have He := Lib.hid (vld_c (l := l) (s := s) hc)
    have Hc := Lib.hid hc
    clear hc
    go_enter Try.func19, Try.ntmps19
    go_wp2_with fail
    refine Mm.region_ext (by kernel_rfl) (by kernel_rfl) ?_; (repeat (first | go_big_quiet_step ((go_at_call 15; exact Mm.calls_ext (rcheck_no r Hc.out _))) | quiet_step ((go_at_call 15; exact Mm.calls_ext (rcheck_no r Hc.out _))))); refine wpQuiet_nil ?_
    intro w5 hb5
    go_wp2_with fail
    go_ret
    exact ⟨ret_bool He.out.symm, bl_trans (by (repeat (first | with_reducible exact Below.refl _ _ | with_reducible refine bl_drewN ?_ _ | with_reducible refine Below.drew ?_ | with_reducible refine bl_alloc ?_ _ | with_reducible refine Below.alloc ?_ (by first | omega | (simp; done) | (simp; omega)) _ | with_reducible refine Below.setCell ?_ (by first | omega | (simp; done) | (simp; omega)) _ | with_reducible assumption))) hb5⟩
  have Hc := Lib.hid hc
  by_cases hw : (l.length : Int) ≤ r.w
  · have He := Lib.hid (vld_e (s := s) hc hw)
    have hd : decide ((l.length : Int) ≤ r.w) = true := decide_eq_true hw
    clear hc
    go_enter Try.func19, Try.ntmps19
    go_wp2_with fail
    refine Mm.region_ext (by kernel_rfl) (by kernel_rfl) ?_; (repeat (first | go_big_quiet_step ((first | (go_at_call 15; exact Mm.calls_ext (rcheck_yes r Hc.out _)) | (go_at_call 31; exact Mm.calls_same (fails_any l A c _ hl (rdb_ext hr'.out _))))) | quiet_step ((first | (go_at_call 15; exact Mm.calls_ext (rcheck_yes r Hc.out _)) | (go_at_call 31; exact Mm.calls_same (fails_any l A c _ hl (rdb_ext hr'.out _))))))); refine wpQuiet_nil ?_
    intro w5 hb5
    go_wp2_with fail
    go_ret
    exact ⟨ret_bool He.out.symm, bl_trans (by (repeat (first | with_reducible exact Below.refl _ _ | with_reducible refine bl_drewN ?_ _ | with_reducible refine Below.drew ?_ | with_reducible refine bl_alloc ?_ _ | with_reducible refine Below.alloc ?_ (by first | omega | (simp; done) | (simp; omega)) _ | with_reducible refine Below.setCell ?_ (by first | omega | (simp; done) | (simp; omega)) _ | with_reducible assumption))) hb5⟩
  · have He := Lib.hid (vld_w (s := s) hw)
    have hd : decide ((l.length : Int) ≤ r.w) = false := decide_eq_false hw
    clear hc
    go_enter Try.func19, Try.ntmps19
    go_wp2_with fail
    refine Mm.region_ext (by kernel_rfl) (by kernel_rfl) ?_; (repeat (first | go_big_quiet_step ((first | (go_at_call 15; exact Mm.calls_ext (rcheck_yes r Hc.out _)) | (go_at_call 31; exact Mm.calls_same (fails_any l A c _ hl (rdb_ext hr'.out _))))) | quiet_step ((first | (go_at_call 15; exact Mm.calls_ext (rcheck_yes r Hc.out _)) | (go_at_call 31; exact Mm.calls_same (fails_any l A c _ hl (rdb_ext hr'.out _))))))); refine wpQuiet_nil ?_
    intro w5 hb5
    go_wp2_with fail
    go_ret
    exact ⟨ret_bool He.out.symm, bl_trans (by (repeat (first | with_reducible exact Below.refl _ _ | with_reducible refine bl_drewN ?_ _ | with_reducible refine Below.drew ?_ | with_reducible refine bl_alloc ?_ _ | with_reducible refine Below.alloc ?_ (by first | omega | (simp; done) | (simp; omega)) _ | with_reducible refine Below.setCell ?_ (by first | omega | (simp; done) | (simp; omega)) _ | with_reducible assumption))) hb5⟩

end Go.Proofs.Ytpgkiiaoddhdcaa.Mo
