/- Walk: the statement DigestUndone. -/
import Derived.Test.YtoiipifoehfcdaaDR
import Derived.WalkKit
import Derived.WalkSpells
import Derived.WalkLawsBesides
import Derived.Deep.QuietTactic
import Derived.BigQuiet
import Derived.Deep.Draws
import Derived.Deep.AppendLies
import Derived.Laws.OwnMore
import Derived.Laws.BytesArg
import Derived.Lib.Hide
import Derived.Deep.LoopGhost
namespace Go.Proofs.Ytoiipifoehfcdaa.Dg
open Go.RowKit

set_option maxHeartbeats 400000 in
theorem right_any (x n : Int) (h0 : 1 ≤ n) (h1 : n ≤ 31) (w : World) :
    Calls Try.prog 11 #[.int .u32 x, .int .u64 n] w fun e w' => e = .returned (.int .u32 (rotr x n)) ∧ w = w' := by
  go_enter Try.func11, Try.ntmps11
  go_wp2
  go_ret
  exact ⟨rfl, rfl⟩

theorem un_step (s : St) (h : W4 s) (k : Nat) (hk : k < 12) : itr (12 - (k + 1)) s = urnd (itr (12 - k) s) := by
  rw [show 12 - k = 11 - k + 1 by omega, show 12 - (k + 1) = 11 - k by omega]
  exact (urnd_rnd _ (itr_W s h _)).symm

attribute [local go_sem] eq_dig eq_arr wrap_sub bits_xor

set_option maxHeartbeats 1000000 in
theorem undone_any (s : St) (h : W4 s) (w : World) :
    Calls Try.prog 4 #[dv s] w fun e w' => e = .returned (.bool true) ∧ Below w.heap.size w w' := by
  have H := Lib.hid h
  clear h
  go_enter Try.func4, Try.ntmps4
  go_wp2_with fail
  refine (perm_any s _).mono ?_
  rintro e w1 ⟨rfl, hb1⟩
  have hD1 : Blk4 w1 w.heap.size s := Blk4.below (by unfold Blk4; go_simp) hb1 (by simp)
  have hs1 : w.heap.size < w1.heap.size := by have := hb1.size; simp at this; omega
  have hc1 : Below w.heap.size w w1 := Below.trans (by (repeat (first | with_reducible exact Below.refl _ _ | with_reducible refine bl_drewN ?_ _ | with_reducible refine Below.drew ?_ | with_reducible refine Below.alloc ?_ (by first | omega | (simp; done) | (simp; omega)) _ | with_reducible refine Below.setCell ?_ (by first | omega | (simp; done) | (simp; omega)) _ | with_reducible assumption))) (hb1.mono (by simp))
  clear hb1
  rw [perm_eq]
  obtain ⟨d0, d1, d2, d3, _⟩ := id hD1
  go_wp2
  go_quiet (fail)
  go_wp2
  go_loop [4, 5, 6, 7, 9] (fun a b c d i => ∃ (k : Nat) (X : St), k ≤ 12 ∧ i = .int .i64 k ∧ X = itr (12 - k) s ∧ a = .int .u32 X.1 ∧ b = .int .u32 X.2.1 ∧ c = .int .u32 X.2.2.1 ∧ d = .int .u32 X.2.2.2) (fun _ _ _ _ i => 12 - (intOf i).toNat)
  case atStart => exact ⟨0, itr 12 s, by omega, rfl, rfl, rfl, rfl, rfl, rfl⟩
  case round =>
    obtain ⟨k, X, hk, rfl, hX, rfl, rfl, rfl, rfl⟩ := hrel
    have HX := Lib.hid hX
    clear hX
    by_cases hlt : k < 12
    · have Hs := Lib.hid (un_step s H.out k hlt)
      go_wp2_with (go_at_call 11; refine (right_any _ _ (by omega) (by omega) _).mono ?_; rintro e w' ⟨rfl, rfl⟩)
      go_round
      case rel => exact ⟨k + 1, urnd X, by omega, by go_num, by rw [Hs.out, HX.out], rfl, rfl, rfl, rfl⟩
      case measure => simp [intOf]; omega
    · obtain rfl : k = 12 := by omega
      have q := eqb_self (s.1, s.2.1, s.2.2.1, s.2.2.2)
      obtain rfl : X = s := HX.out
      go_wp2_with fail
      refine (sane_any _).mono ?_
      rintro e w6 ⟨rfl, hb6⟩
      have hc6 : Below w.heap.size w w6 := Below.trans (by (repeat (first | with_reducible exact Below.refl _ _ | with_reducible refine bl_drewN ?_ _ | with_reducible refine Below.drew ?_ | with_reducible refine Below.alloc ?_ (by first | omega | (simp; done) | (simp; omega)) _ | with_reducible refine Below.setCell ?_ (by first | omega | (simp; done) | (simp; omega)) _ | with_reducible assumption))) (hb6.mono (by have := hc1.size; simp; omega))
      go_wp2
      go_ret
      exact ⟨rfl, hc6⟩
end Go.Proofs.Ytoiipifoehfcdaa.Dg
