/- Plain mathematics of the digest layer: words of 32 bits as integers, one round, the permutation. No program in sight. -/
import Derived.WalkKit

import Derived.Deep.Draws
namespace Go.Proofs.YtdikoffppjoomaaGreat.Dg
open Go.RowKit

/-- Sum of two words. -/
def add32 (a b : Int) : Int := (a + b) % 4294967296
/-- Exclusive or of two words. -/
def xor32 (a b : Int) : Int := bits .xor .u32 a b
/-- A word rotated to the left. -/
def rotl (x n : Int) : Int := bits .or .u32 (x * 2 ^ n.toNat % 4294967296) (x / 2 ^ (32 - n).toNat)

abbrev St := Int × Int × Int × Int

/-- One round, with the eight intermediate values written out. -/
def rnd (s : St) : St :=
  (add32 (rotl (add32 s.1 s.2.1) 16) (xor32 (rotl s.2.2.2 8) (add32 s.2.2.1 s.2.2.2)),
   xor32 (rotl (xor32 (rotl s.2.1 5) (add32 s.1 s.2.1)) 7) (add32 (add32 s.2.2.1 s.2.2.2) (xor32 (rotl s.2.1 5) (add32 s.1 s.2.1))),
   rotl (add32 (add32 s.2.2.1 s.2.2.2) (xor32 (rotl s.2.1 5) (add32 s.1 s.2.1))) 16,
   xor32 (rotl (xor32 (rotl s.2.2.2 8) (add32 s.2.2.1 s.2.2.2)) 13) (add32 (rotl (add32 s.1 s.2.1) 16) (xor32 (rotl s.2.2.2 8) (add32 s.2.2.1 s.2.2.2))))

/-- k rounds. -/
def itr : Nat → St → St
  | 0, s => s
  | k + 1, s => rnd (itr k s)

theorem perm_ex : ∃ f : St → St, ∀ s, f s = itr 12 s := ⟨_, fun _ => rfl⟩
/-- The permutation: twelve rounds (chosen, so that nothing unfolds it). -/
noncomputable def perm : St → St := Classical.choose perm_ex
theorem perm_eq (s : St) : perm s = itr 12 s := Classical.choose_spec perm_ex s

/-- The value of an array of four words. -/
abbrev dv (s : St) : Value := .agg #[.int .u32 s.1, .int .u32 s.2.1, .int .u32 s.2.2.1, .int .u32 s.2.2.2]

theorem wrap_add (a b : Int) : IntKind.u32.wrap (a + b) = add32 a b := by rw [IntKind.wrap_u32]; rfl
theorem bits_xor (a b : Int) : bits .xor .u32 a b = xor32 a b := rfl
theorem bl_alloc {a w : World} (h : Below a.heap.size a w) (o : Obj) : Below a.heap.size a (w.alloc o) := h.alloc h.size o
theorem bl_drewN {B : Nat} {a w : World} (h : Below B a w) (n : Nat) : Below B a (w.drewN n) := ⟨h.os, h.tape, h.output, h.size, h.block⟩
theorem ret_val {a b : Value} (h : a = b) : Ending.returned a = .returned b := by rw [h]
end Go.Proofs.YtdikoffppjoomaaGreat.Dg
