/- Walks: rotations and the permutation, of the program and of the reference. -/
import Derived.Test.YtdikoffppjoomaaGreatRows
import Derived.Test.YtdikoffppjoomaaGreatDA
import Derived.WalkKit
import Derived.WalkSpells
import Derived.WalkLawsBesides
import Derived.Deep.QuietTactic
import Derived.BigQuiet
import Derived.Deep.Draws
import Derived.Deep.AppendLies
import Derived.Laws.OwnMore
import Derived.Laws.BytesArg
import Derived.Lib.Hide
import Derived.Deep.LoopGhost
namespace Go.Proofs.YtdikoffppjoomaaGreat.Dg
open Go.RowKit

set_option maxHeartbeats 400000 in
theorem rotate_any (x n : Int) (h0 : 1 ≤ n) (h1 : n ≤ 31) (w : World) :
    Calls Tryz.prog 126 #[.int .u32 x, .int .u64 n] w fun e w' => e = .returned (.int .u32 (rotl x n)) ∧ w = w' := by
  go_enter Tryz.func126, Tryz.ntmps126
  go_wp2
  go_ret
  exact ⟨rfl, rfl⟩

theorem and31 (n : Int) (h0 : 1 ≤ n) (h1 : n ≤ 31) : bits .and .u64 n 31 = n := by
  obtain ⟨m, rfl⟩ := Int.eq_ofNat_of_zero_le (show 0 ≤ n by omega)
  have hm : m < 32 := by omega
  have : ∀ k : Fin 32, bits .and .u64 ((k.val : Nat) : Int) 31 = (k.val : Int) := by decide +kernel
  exact this ⟨m, hm⟩

set_option maxHeartbeats 400000 in
theorem rot_any (x n : Int) (h0 : 1 ≤ n) (h1 : n ≤ 31) (w : World) :
    Calls Tryz.prog 123 #[.int .u32 x, .int .i64 n] w fun e w' => e = .returned (.int .u32 (rotl x n)) ∧ w = w' := by
  have h2 := and31 n h0 h1
  go_enter Tryz.func123, Tryz.ntmps123
  go_wp2
  go_ret
  exact ⟨rfl, rfl⟩

attribute [local go_sem] wrap_add bits_xor

set_option maxHeartbeats 1000000 in
theorem perm_any (s : St) (w : World) :
    Calls Tryz.prog 115 #[dv s] w fun e w' => e = .returned (dv (perm s)) ∧ Below w.heap.size w w' := by
  go_enter Tryz.func115, Tryz.ntmps115
  go_wp2
  go_quiet (fail)
  go_wp2
  go_loop [3, 4, 5, 6, 15] (fun a b c d i => ∃ k : Nat, k ≤ 12 ∧ i = .int .i64 k ∧ a = .int .u32 (itr k s).1 ∧ b = .int .u32 (itr k s).2.1 ∧ c = .int .u32 (itr k s).2.2.1 ∧ d = .int .u32 (itr k s).2.2.2) (fun _ _ _ _ i => 12 - (intOf i).toNat)
  case atStart => exact ⟨0, by omega, rfl, rfl, rfl, rfl, rfl⟩
  case round =>
    obtain ⟨k, hk, rfl, rfl, rfl, rfl, rfl⟩ := hrel
    by_cases hlt : k < 12
    · go_wp2_with (go_at_call 123; refine (rot_any _ _ (by omega) (by omega) _).mono ?_; rintro e w' ⟨rfl, rfl⟩)
      go_round
      case rel => exact ⟨k + 1, by omega, by go_num, rfl, rfl, rfl, rfl⟩
      case measure => simp [intOf]; omega
    · obtain rfl : k = 12 := by omega
      go_wp2
      refine bodyPost_ret (v := dv (itr 12 s)) (by simp [results, Tryz.results115, go_sem]) rfl ⟨by rw [perm_eq], ?_⟩
      (repeat (first | with_reducible exact Below.refl _ _ | with_reducible refine bl_drewN ?_ _ | with_reducible refine Below.drew ?_ | with_reducible refine bl_alloc ?_ _ | with_reducible refine Below.alloc ?_ (by first | omega | (simp; done) | (simp; omega)) _ | with_reducible refine Below.setCell ?_ (by first | omega | (simp; done) | (simp; omega)) _ | with_reducible assumption))

set_option maxHeartbeats 1000000 in
theorem rperm_any (s : St) (w : World) :
    Calls Tryz.prog 118 #[dv s] w fun e w' => e = .returned (dv (perm s)) ∧ Below w.heap.size w w' := by
  go_enter Tryz.func118, Tryz.ntmps118
  go_wp2
  go_quiet (fail)
  go_wp2
  go_loop [3, 4, 5, 6, 7] (fun a b c d i => ∃ k : Nat, k ≤ 12 ∧ i = .int .i64 k ∧ a = .int .u32 (itr k s).1 ∧ b = .int .u32 (itr k s).2.1 ∧ c = .int .u32 (itr k s).2.2.1 ∧ d = .int .u32 (itr k s).2.2.2) (fun _ _ _ _ i => 12 - (intOf i).toNat)
  case atStart => exact ⟨0, by omega, rfl, rfl, rfl, rfl, rfl⟩
  case round =>
    obtain ⟨k, hk, rfl, rfl, rfl, rfl, rfl⟩ := hrel
    by_cases hlt : k < 12
    · go_wp2_with (go_at_call 126; refine (rotate_any _ _ (by omega) (by omega) _).mono ?_; rintro e w' ⟨rfl, rfl⟩)
      go_round
      case rel => exact ⟨k + 1, by omega, by go_num, rfl, rfl, rfl, rfl⟩
      case measure => simp [intOf]; omega
    · obtain rfl : k = 12 := by omega
      go_wp2
      refine bodyPost_ret (v := dv (itr 12 s)) (by simp [results, Tryz.results118, go_sem]) rfl ⟨by rw [perm_eq], ?_⟩
      (repeat (first | with_reducible exact Below.refl _ _ | with_reducible refine bl_drewN ?_ _ | with_reducible refine Below.drew ?_ | with_reducible refine bl_alloc ?_ _ | with_reducible refine Below.alloc ?_ (by first | omega | (simp; done) | (simp; omega)) _ | with_reducible refine Below.setCell ?_ (by first | omega | (simp; done) | (simp; omega)) _ | with_reducible assumption))

theorem perm_i (a b c d : Int) (w : World) :
    Calls Tryz.prog 115 #[.agg #[.int .u32 a, .int .u32 b, .int .u32 c, .int .u32 d]] w fun e w' => e = .returned (dv (perm (a, b, c, d))) ∧ Below w.heap.size w w' := perm_any (a, b, c, d) w
theorem rperm_i (a b c d : Int) (w : World) :
    Calls Tryz.prog 118 #[.agg #[.int .u32 a, .int .u32 b, .int .u32 c, .int .u32 d]] w fun e w' => e = .returned (dv (perm (a, b, c, d))) ∧ Below w.heap.size w w' := rperm_any (a, b, c, d) w

end Go.Proofs.YtdikoffppjoomaaGreat.Dg
