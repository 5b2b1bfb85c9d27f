/- Walks: numbers, choices and words off the tape. -/
import Derived.Test.YtcidpgjeddogmaaTT
import Derived.WalkKit
import Derived.WalkSpells
import Derived.WalkLawsBesides
import Derived.Deep.QuietTactic
import Derived.BigQuiet
import Derived.Deep.Draws
import Derived.Deep.AppendLies
import Derived.Laws.OwnMore
import Derived.Laws.BytesArg
import Derived.Lib.Hide
import Derived.Deep.LoopGhost
namespace Go.Proofs.Ytcidpgjeddogmaa.Tm
open Go.RowKit Go.Proofs.Ytcidpgjeddogmaa.Mw
set_option linter.unusedVariables false
set_option linter.unusedSimpArgs false

theorem next_any (tp : Nat) (n : Int) (w : World) (ht : Tp w tp) (h1 : 1 ≤ n) (h2 : n ≤ 1000000) :
    Calls Try.prog 25 #[.pointer (some ⟨tp, 0, none⟩), .int .i64 n] w (TI (fun x => 0 ≤ x ∧ x < n) tp w) := by
  go_enter Try.func25, Try.ntmps25
  go_wp2_with fail
  refine (raw_any tp _ ht).mono ?_
  rintro e w1 ⟨x, hx, rfl, ht1, hg1⟩
  go_wp2_with fail
  refine (cut_any x n h1 (by omega) hx _).mono ?_
  rintro e w2 ⟨rfl, rfl⟩
  have hb := Int.emod_nonneg x (show n ≠ 0 by omega)
  have hc := Int.emod_lt_of_pos x (show 0 < n by omega)
  go_wp2_with fail
  go_ret
  exact ⟨x % n, ⟨hb, hc⟩, rfl, ht1, hg1⟩
theorem range_any (tp : Nat) (a b : Int) (w : World) (ht : Tp w tp) (h1 : a ≤ b) (h2 : -100000 ≤ a) (h3 : b ≤ 100000) :
    Calls Try.prog 29 #[.pointer (some ⟨tp, 0, none⟩), .int .i64 a, .int .i64 b] w (TI (fun x => a ≤ x ∧ x ≤ b) tp w) := by
  go_enter Try.func29, Try.ntmps29
  go_wp2_with fail
  refine (next_any tp _ _ ht (by omega) (by omega)).mono ?_
  rintro e w1 ⟨x, hx, rfl, ht1, hg1⟩
  obtain ⟨hx0, hx1⟩ := hx
  go_wp2_with fail
  go_ret
  exact ⟨a + x, ⟨by omega, by omega⟩, rfl, ht1, hg1⟩
theorem one_any (tp : Nat) (n : Int) (w : World) (ht : Tp w tp) (h1 : 1 ≤ n) (h2 : n ≤ 1000000) :
    Calls Try.prog 35 #[.pointer (some ⟨tp, 0, none⟩), .int .i64 n] w (TB tp w) := by
  go_enter Try.func35, Try.ntmps35
  go_wp2_with fail
  refine (next_any tp _ _ ht (by omega) (by omega)).mono ?_
  rintro e w1 ⟨x, hx, rfl, ht1, hg1⟩
  go_wp2_with fail
  go_ret
  exact ⟨_, rfl, ht1, hg1⟩
theorem pick_any (tp : Nat) (l : List Int) (A : Option Addr) (c : Nat) (w : World) (ht : Tp w tp) (h1 : 1 ≤ l.length) (h2 : l.length ≤ 1000) (hr : RdI w .i64 A l) (hA : Away tp A) :
    Calls Try.prog 40 #[.pointer (some ⟨tp, 0, none⟩), .slice A l.length c] w (TI (fun x => x ∈ l) tp w) := by
  go_enter Try.func40, Try.ntmps40
  go_wp2_with fail
  refine (next_any tp _ _ ht (by omega) (by omega)).mono ?_
  rintro e w1 ⟨x, hx, rfl, ht1, hg1⟩
  obtain ⟨k, rfl⟩ := Int.eq_ofNat_of_zero_le hx.1
  obtain ⟨hx0, hx1⟩ := hx
  have hk : k < l.length := by omega
  obtain ⟨b, off, rfl, hbl, hc⟩ := (hr.grown hg1 hA) k hk
  go_wp2_with fail
  go_ret
  exact ⟨gi l k, gi_mem l k hk, rfl, ht1, hg1⟩

/-- A choice out of a list that is written out. -/
theorem pickl (tp : Nat) (l : List Int) (c : Nat) (w : World) (ht : Tp w tp) (cs : Array Value) (T : TypeId) (hcs : (l.map (Value.int .i64)).toArray = cs) (h1 : 1 ≤ l.length) (h2 : l.length ≤ 1000) :
    Calls Try.prog 40 #[.pointer (some ⟨tp, 0, none⟩), .slice (some ⟨w.heap.size, 0, none⟩) l.length c] (w.alloc (.cells cs T)) (TI (fun x => x ∈ l) tp (w.alloc (.cells cs T))) :=
  pick_any tp l _ c _ (ht.alloc _) h1 h2 (RdI.lit' rfl hcs rfl) (Away.some (by have := ht.lt; simp; omega))

abbrev wildL : List Int := [-1, 0, 1, 2, 31, 32, 99, 100, 200, 201, 9999, 10000, 1000000, 1000001, 1152921504606846976, 1152921504606846977, -1152921504606846976, 9223372036854775807, -9223372036854775808]
theorem wild_i64 : ∀ x ∈ wildL, I64 x := by
  intro x hx
  unfold I64
  simp at hx
  omega
end Go.Proofs.Ytcidpgjeddogmaa.Tm
