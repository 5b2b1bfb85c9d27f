/- Walks: the statements IdentityFormats and IdentityBack. -/
import Derived.Test.YtpdekglmmgecmaaIH
import Derived.WalkKit
import Derived.WalkSpells
import Derived.WalkLawsBesides
import Derived.Deep.QuietTactic
import Derived.BigQuiet
import Derived.Deep.Draws
import Derived.Deep.AppendLies
import Derived.Laws.OwnMore
import Derived.Laws.BytesArg
import Derived.Lib.Hide
import Derived.Deep.LoopGhost
namespace Go.Proofs.Ytpdekglmmgecmaa.Id
open Go.RowKit
set_option linter.unusedSimpArgs false
set_option linter.unusedVariables false
set_option linter.unusedSimpArgs false

def I64 (x : Int) : Prop := -9223372036854775808 ≤ x ∧ x ≤ 9223372036854775807

set_option maxHeartbeats 1000000 in
theorem formats_any (c y k : Int) (hc : I64 c) (hy : I64 y) (hk : I64 k) (w : World) :
    Calls Try.prog 3 #[.int .i64 c, .int .i64 y, .int .i64 k] w fun e w' => e = .returned (.bool true) ∧ Below w.heap.size w w' := by
  have K1 := Lib.hid (cut_any c 101 (by omega) (by omega) hc.1 hc.2)
  have K2 := Lib.hid (cut_any y 101 (by omega) (by omega) hy.1 hy.2)
  have K3 := Lib.hid (cut_any k 10001 (by omega) (by omega) hk.1 hk.2)
  go_enter Try.func3, Try.ntmps3
  go_wp2_with fail
  refine (K1.out _).mono ?_
  rintro e w1 ⟨rfl, rfl⟩
  go_wp2_with fail
  refine (K2.out _).mono ?_
  rintro e w1 ⟨rfl, rfl⟩
  go_wp2_with fail
  refine (K3.out _).mono ?_
  rintro e w1 ⟨rfl, rfl⟩
  go_wp2_with fail
  refine (format_any c y k _).mono ?_
  rintro e w1 ⟨rfl, hb1⟩
  have hz1 : w.heap.size + 2 ≤ w1.heap.size := by have := hb1.size; first | omega | (simp at this; omega)
  have hk1 := bcell hb1 (w.heap.size + 2) (by first | omega | (simp; done) | (simp; omega))
  have hc1 : Below w.heap.size w w1 := bl_trans (by (repeat (first | with_reducible exact Below.refl _ _ | with_reducible refine bl_drewN ?_ _ | with_reducible refine Below.drew ?_ | with_reducible refine bl_alloc ?_ _ | with_reducible refine Below.alloc ?_ (by first | omega | (simp; done) | (simp; omega)) _ | with_reducible refine Below.setCell ?_ (by first | omega | (simp; done) | (simp; omega)) _ | with_reducible assumption))) hb1
  clear hb1
  have hl1a : w.heap.size < w1.heap.size := by omega
  have hl1b : w.heap.size + 1 < w1.heap.size := by omega
  go_wp2_with fail
  refine (rformat_any c y k _).mono ?_
  rintro e w2 ⟨rfl, hb2⟩
  have hz2 : w.heap.size + 2 ≤ w2.heap.size := by have := hb2.size; first | omega | (simp at this; omega)
  have hk2 := bcell hb2 (w.heap.size + 2) (by first | omega | (simp; done) | (simp; omega))
  have hc2 : Below w.heap.size w w2 := bl_trans (by (repeat (first | with_reducible exact Below.refl _ _ | with_reducible refine bl_drewN ?_ _ | with_reducible refine Below.drew ?_ | with_reducible refine bl_alloc ?_ _ | with_reducible refine Below.alloc ?_ (by first | omega | (simp; done) | (simp; omega)) _ | with_reducible refine Below.setCell ?_ (by first | omega | (simp; done) | (simp; omega)) _ | with_reducible assumption))) hb2
  clear hb2
  have hl2a : w.heap.size < w2.heap.size := by omega
  have hl2b : w.heap.size + 1 < w2.heap.size := by omega
  go_wp2_with fail
  refine (format_any _ _ _ _).mono ?_
  rintro e w3 ⟨rfl, hb3⟩
  have hz3 : w.heap.size + 2 ≤ w3.heap.size := by have := hb3.size; first | omega | (simp at this; omega)
  have hk3 := bcell hb3 (w.heap.size + 2) (by first | omega | (simp; done) | (simp; omega))
  have hc3 : Below w.heap.size w w3 := bl_trans (by (repeat (first | with_reducible exact Below.refl _ _ | with_reducible refine bl_drewN ?_ _ | with_reducible refine Below.drew ?_ | with_reducible refine bl_alloc ?_ _ | with_reducible refine Below.alloc ?_ (by first | omega | (simp; done) | (simp; omega)) _ | with_reducible refine Below.setCell ?_ (by first | omega | (simp; done) | (simp; omega)) _ | with_reducible assumption))) hb3
  clear hb3
  have hl3a : w.heap.size < w3.heap.size := by omega
  have hl3b : w.heap.size + 1 < w3.heap.size := by omega
  go_wp2_with fail
  refine (rformat_any _ _ _ _).mono ?_
  rintro e w4 ⟨rfl, hb4⟩
  have hz4 : w.heap.size + 2 ≤ w4.heap.size := by have := hb4.size; first | omega | (simp at this; omega)
  have hk4 := bcell hb4 (w.heap.size + 2) (by first | omega | (simp; done) | (simp; omega))
  have hc4 : Below w.heap.size w w4 := bl_trans (by (repeat (first | with_reducible exact Below.refl _ _ | with_reducible refine bl_drewN ?_ _ | with_reducible refine Below.drew ?_ | with_reducible refine bl_alloc ?_ _ | with_reducible refine Below.alloc ?_ (by first | omega | (simp; done) | (simp; omega)) _ | with_reducible refine Below.setCell ?_ (by first | omega | (simp; done) | (simp; omega)) _ | with_reducible assumption))) hb4
  clear hb4
  have hl4a : w.heap.size < w4.heap.size := by omega
  have hl4b : w.heap.size + 1 < w4.heap.size := by omega
  go_wp2_with fail
  refine Mm.region_ext (by kernel_rfl) (by kernel_rfl) ?_; (repeat (first | go_big_quiet_step ((first | (go_at_call 15; exact Mm.calls_ext (valid_any _ _ _ _)) | (go_at_call 16; exact Mm.calls_ext (rvalid_any _ _ _ _)) | (go_at_call 17; exact Mm.calls_ext (awake_any _)))) | quiet_step ((first | (go_at_call 15; exact Mm.calls_ext (valid_any _ _ _ _)) | (go_at_call 16; exact Mm.calls_ext (rvalid_any _ _ _ _)) | (go_at_call 17; exact Mm.calls_ext (awake_any _)))))); refine wpQuiet_nil ?_
  intro w5 hb5
  have hc5 : Below w.heap.size w w5 := bl_trans (by (repeat (first | with_reducible exact Below.refl _ _ | with_reducible refine bl_drewN ?_ _ | with_reducible refine Below.drew ?_ | with_reducible refine bl_alloc ?_ _ | with_reducible refine Below.alloc ?_ (by first | omega | (simp; done) | (simp; omega)) _ | with_reducible refine Below.setCell ?_ (by first | omega | (simp; done) | (simp; omega)) _ | with_reducible assumption))) hb5
  go_wp2
  go_ret
  exact ⟨rfl, hc5⟩
end Go.Proofs.Ytpdekglmmgecmaa.Id
