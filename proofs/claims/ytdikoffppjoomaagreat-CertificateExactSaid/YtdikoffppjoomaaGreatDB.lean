/- Plain mathematics of the digest layer: words of 32 bits as integers, one round, the permutation. No program in sight. -/
import Derived.WalkKit
import Derived.Deep.Draws
import Derived.Test.YtdikoffppjoomaaGreatRows
import Derived.WalkSpells
import Derived.WalkLawsBesides
import Derived.Deep.QuietTactic
import Derived.BigQuiet
import Derived.Deep.AppendLies
import Derived.Laws.OwnMore
import Derived.Laws.BytesArg
import Derived.Lib.Hide
import Derived.Deep.LoopGhost
namespace Go.Proofs.YtdikoffppjoomaaGreat.Dg
open Go.RowKit

/-- Sum of two words. -/
def add32 (a b : Int) : Int := (a + b) % 4294967296
/-- Exclusive or of two words. -/
def xor32 (a b : Int) : Int := bits .xor .u32 a b
/-- A word rotated to the left. -/
def rotl (x n : Int) : Int := bits .or .u32 (x * 2 ^ n.toNat % 4294967296) (x / 2 ^ (32 - n).toNat)

abbrev St := Int × Int × Int × Int

/-- One round, with the eight intermediate values written out. -/
def rnd (s : St) : St :=
  (add32 (rotl (add32 s.1 s.2.1) 16) (xor32 (rotl s.2.2.2 8) (add32 s.2.2.1 s.2.2.2)),
   xor32 (rotl (xor32 (rotl s.2.1 5) (add32 s.1 s.2.1)) 7) (add32 (add32 s.2.2.1 s.2.2.2) (xor32 (rotl s.2.1 5) (add32 s.1 s.2.1))),
   rotl (add32 (add32 s.2.2.1 s.2.2.2) (xor32 (rotl s.2.1 5) (add32 s.1 s.2.1))) 16,
   xor32 (rotl (xor32 (rotl s.2.2.2 8) (add32 s.2.2.1 s.2.2.2)) 13) (add32 (rotl (add32 s.1 s.2.1) 16) (xor32 (rotl s.2.2.2 8) (add32 s.2.2.1 s.2.2.2))))

/-- k rounds. -/
def itr : Nat → St → St
  | 0, s => s
  | k + 1, s => rnd (itr k s)

theorem perm_ex : ∃ f : St → St, ∀ s, f s = itr 12 s := ⟨_, fun _ => rfl⟩
/-- The permutation: twelve rounds (chosen, so that nothing unfolds it). -/
noncomputable def perm : St → St := Classical.choose perm_ex
theorem perm_eq (s : St) : perm s = itr 12 s := Classical.choose_spec perm_ex s

/-- The value of an array of four words. -/
abbrev dv (s : St) : Value := .agg #[.int .u32 s.1, .int .u32 s.2.1, .int .u32 s.2.2.1, .int .u32 s.2.2.2]

theorem wrap_add (a b : Int) : IntKind.u32.wrap (a + b) = add32 a b := by rw [IntKind.wrap_u32]; rfl
theorem bits_xor (a b : Int) : bits .xor .u32 a b = xor32 a b := rfl
theorem bl_alloc {a w : World} (h : Below a.heap.size a w) (o : Obj) : Below a.heap.size a (w.alloc o) := h.alloc h.size o
theorem bl_drewN {B : Nat} {a w : World} (h : Below B a w) (n : Nat) : Below B a (w.drewN n) := ⟨h.os, h.tape, h.output, h.size, h.block⟩
theorem ret_val {a b : Value} (h : a = b) : Ending.returned a = .returned b := by rw [h]
end Go.Proofs.YtdikoffppjoomaaGreat.Dg
namespace Go.Proofs.YtdikoffppjoomaaGreat.Dg
open Go.RowKit

set_option maxHeartbeats 400000 in
theorem rotate_any (x n : Int) (h0 : 1 ≤ n) (h1 : n ≤ 31) (w : World) :
    Calls Tryz.prog 126 #[.int .u32 x, .int .u64 n] w fun e w' => e = .returned (.int .u32 (rotl x n)) ∧ w = w' := by
  go_enter Tryz.func126, Tryz.ntmps126
  go_wp2
  go_ret
  exact ⟨rfl, rfl⟩

theorem and31 (n : Int) (h0 : 1 ≤ n) (h1 : n ≤ 31) : bits .and .u64 n 31 = n := by
  obtain ⟨m, rfl⟩ := Int.eq_ofNat_of_zero_le (show 0 ≤ n by omega)
  have hm : m < 32 := by omega
  have : ∀ k : Fin 32, bits .and .u64 ((k.val : Nat) : Int) 31 = (k.val : Int) := by decide +kernel
  exact this ⟨m, hm⟩

set_option maxHeartbeats 400000 in
theorem rot_any (x n : Int) (h0 : 1 ≤ n) (h1 : n ≤ 31) (w : World) :
    Calls Tryz.prog 123 #[.int .u32 x, .int .i64 n] w fun e w' => e = .returned (.int .u32 (rotl x n)) ∧ w = w' := by
  have h2 := and31 n h0 h1
  go_enter Tryz.func123, Tryz.ntmps123
  go_wp2
  go_ret
  exact ⟨rfl, rfl⟩

attribute [local go_sem] wrap_add bits_xor

set_option maxHeartbeats 1000000 in
theorem perm_any (s : St) (w : World) :
    Calls Tryz.prog 115 #[dv s] w fun e w' => e = .returned (dv (perm s)) ∧ Below w.heap.size w w' := by
  go_enter Tryz.func115, Tryz.ntmps115
  go_wp2
  go_quiet (fail)
  go_wp2
  go_loop [3, 4, 5, 6, 15] (fun a b c d i => ∃ k : Nat, k ≤ 12 ∧ i = .int .i64 k ∧ a = .int .u32 (itr k s).1 ∧ b = .int .u32 (itr k s).2.1 ∧ c = .int .u32 (itr k s).2.2.1 ∧ d = .int .u32 (itr k s).2.2.2) (fun _ _ _ _ i => 12 - (intOf i).toNat)
  case atStart => exact ⟨0, by omega, rfl, rfl, rfl, rfl, rfl⟩
  case round =>
    obtain ⟨k, hk, rfl, rfl, rfl, rfl, rfl⟩ := hrel
    by_cases hlt : k < 12
    · go_wp2_with (go_at_call 123; refine (rot_any _ _ (by omega) (by omega) _).mono ?_; rintro e w' ⟨rfl, rfl⟩)
      go_round
      case rel => exact ⟨k + 1, by omega, by go_num, rfl, rfl, rfl, rfl⟩
      case measure => simp [intOf]; omega
    · obtain rfl : k = 12 := by omega
      go_wp2
      refine bodyPost_ret (v := dv (itr 12 s)) (by simp [results, Tryz.results115, go_sem]) rfl ⟨by rw [perm_eq], ?_⟩
      (repeat (first | with_reducible exact Below.refl _ _ | with_reducible refine bl_drewN ?_ _ | with_reducible refine Below.drew ?_ | with_reducible refine bl_alloc ?_ _ | with_reducible refine Below.alloc ?_ (by first | omega | (simp; done) | (simp; omega)) _ | with_reducible refine Below.setCell ?_ (by first | omega | (simp; done) | (simp; omega)) _ | with_reducible assumption))

set_option maxHeartbeats 1000000 in
theorem rperm_any (s : St) (w : World) :
    Calls Tryz.prog 118 #[dv s] w fun e w' => e = .returned (dv (perm s)) ∧ Below w.heap.size w w' := by
  go_enter Tryz.func118, Tryz.ntmps118
  go_wp2
  go_quiet (fail)
  go_wp2
  go_loop [3, 4, 5, 6, 7] (fun a b c d i => ∃ k : Nat, k ≤ 12 ∧ i = .int .i64 k ∧ a = .int .u32 (itr k s).1 ∧ b = .int .u32 (itr k s).2.1 ∧ c = .int .u32 (itr k s).2.2.1 ∧ d = .int .u32 (itr k s).2.2.2) (fun _ _ _ _ i => 12 - (intOf i).toNat)
  case atStart => exact ⟨0, by omega, rfl, rfl, rfl, rfl, rfl⟩
  case round =>
    obtain ⟨k, hk, rfl, rfl, rfl, rfl, rfl⟩ := hrel
    by_cases hlt : k < 12
    · go_wp2_with (go_at_call 126; refine (rotate_any _ _ (by omega) (by omega) _).mono ?_; rintro e w' ⟨rfl, rfl⟩)
      go_round
      case rel => exact ⟨k + 1, by omega, by go_num, rfl, rfl, rfl, rfl⟩
      case measure => simp [intOf]; omega
    · obtain rfl : k = 12 := by omega
      go_wp2
      refine bodyPost_ret (v := dv (itr 12 s)) (by simp [results, Tryz.results118, go_sem]) rfl ⟨by rw [perm_eq], ?_⟩
      (repeat (first | with_reducible exact Below.refl _ _ | with_reducible refine bl_drewN ?_ _ | with_reducible refine Below.drew ?_ | with_reducible refine bl_alloc ?_ _ | with_reducible refine Below.alloc ?_ (by first | omega | (simp; done) | (simp; omega)) _ | with_reducible refine Below.setCell ?_ (by first | omega | (simp; done) | (simp; omega)) _ | with_reducible assumption))

theorem perm_i (a b c d : Int) (w : World) :
    Calls Tryz.prog 115 #[.agg #[.int .u32 a, .int .u32 b, .int .u32 c, .int .u32 d]] w fun e w' => e = .returned (dv (perm (a, b, c, d))) ∧ Below w.heap.size w w' := perm_any (a, b, c, d) w
theorem rperm_i (a b c d : Int) (w : World) :
    Calls Tryz.prog 118 #[.agg #[.int .u32 a, .int .u32 b, .int .u32 c, .int .u32 d]] w fun e w' => e = .returned (dv (perm (a, b, c, d))) ∧ Below w.heap.size w w' := rperm_any (a, b, c, d) w

end Go.Proofs.YtdikoffppjoomaaGreat.Dg
