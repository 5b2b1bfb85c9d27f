/- Walks: dice: the numbers from which the statements make their values. -/
import Derived.Test.YtdikoffppjoomaaGreatRows
import Derived.Test.YtdikoffppjoomaaGreatMW
import Derived.WalkKit
import Derived.WalkSpells
import Derived.WalkLawsBesides
import Derived.Deep.QuietTactic
import Derived.BigQuiet
import Derived.Deep.Draws
import Derived.Deep.AppendLies
import Derived.Laws.OwnMore
import Derived.Laws.BytesArg
import Derived.Lib.Hide
import Derived.Deep.LoopGhost
namespace Go.Proofs.YtdikoffppjoomaaGreat.Dc
open Go.RowKit Go.Proofs.YtdikoffppjoomaaGreat.Mw
set_option linter.unusedVariables false
set_option linter.unusedSimpArgs false

/-- Block tp is a dice over numbers. -/
def Di (w : World) (tp : Nat) : Prop := ∃ (A : Option Addr) (c : Nat) (l : List Int) (k : Nat), Bk w tp 81 #[.slice A l.length c, .int .i64 k] ∧ k ≤ l.length ∧ l.length ≤ 1000000 ∧ (∀ n ∈ l, I64 n) ∧ RdI w .i64 A l ∧ (l = [] ∨ ∃ b off, A = some ⟨b, off, none⟩ ∧ b < tp)
theorem Di.lt {w : World} {tp : Nat} (h : Di w tp) : tp < w.heap.size := by obtain ⟨_, _, _, _, hB, _⟩ := h; exact hB.lt
theorem Di.old {w w' : World} {tp : Nat} (h : Di w tp) (hb : Below w.heap.size w w') : Di w' tp := by
  obtain ⟨A, c, l, k, hB, h1, h2, h3, h4, h5⟩ := h
  exact ⟨A, c, l, k, hB.old hb, h1, h2, h3, h4.old hb, h5⟩
theorem Di.alloc {w : World} {tp : Nat} (h : Di w tp) (o : Obj) : Di (w.alloc o) tp := h.old ((Below.refl _ _).alloc (Nat.le_refl _) o)
theorem Di.drewN {w : World} {tp : Nat} (h : Di w tp) (n : Nat) : Di (w.drewN n) tp := h
theorem Di.drew {w : World} {tp : Nat} (h : Di w tp) : Di w.drew tp := h
theorem Di.far {w : World} {tp : Nat} (h : Di w tp) {p : Addr} (hp : tp < p.block) (u : Value) : Di (w.setCell p u) tp := by
  obtain ⟨A, c, l, k, hB, h1, h2, h3, h4, h5⟩ := h
  refine ⟨A, c, l, k, hB.far (by omega) u, h1, h2, h3, ?_, h5⟩
  rcases h5 with h5 | ⟨b, off, rfl, hb⟩
  · subst h5; exact RdI.nil _ _ _
  · exact h4.far (Away.some (by simp; omega)) u
theorem Di.grown {w w' : World} {tp : Nat} {row : Option Nat} (h : Di w tp) (hg : w.grownBy w' row) (hr : ∀ k, row = some k → tp < k) : Di w' tp := by
  obtain ⟨A, c, l, k, hB, h1, h2, h3, h4, h5⟩ := h
  refine ⟨A, c, l, k, hB.grown hg (fun e => by have := hr _ e.symm; omega), h1, h2, h3, ?_, h5⟩
  intro i hi
  obtain ⟨b, off, e, hlt, hc⟩ := h4 i hi
  refine ⟨b, off, e, Nat.lt_of_lt_of_le hlt hg.size, (World.cell?_of_block (a := ⟨b, off + i, none⟩) (hg.block b hlt ?_)).trans hc⟩
  intro e'
  have := hr _ e'.symm
  rcases h5 with h5 | ⟨b', off', e5, hb⟩
  · subst h5; simp at hi
  · rw [e] at e5; cases e5; omega
/-- The ending is a number with a property; the dice alone has turned. -/
def DI (P : Int → Prop) (tp : Nat) (w : World) (e : Ending) (w' : World) : Prop := ∃ x : Int, P x ∧ e = .returned (.int .i64 x) ∧ Di w' tp ∧ w.grownBy w' (some tp)
def DB (tp : Nat) (w : World) (e : Ending) (w' : World) : Prop := ∃ x : Bool, e = .returned (.bool x) ∧ Di w' tp ∧ w.grownBy w' (some tp)

theorem tmod_pos (x n : Int) (h : 1 ≤ n) : -n < x.tmod n ∧ x.tmod n < n := by
  have h0 := Int.emod_nonneg x (show n ≠ 0 by omega)
  have h1 := Int.emod_lt_of_pos x (show 0 < n by omega)
  rw [Int.tmod_eq_emod]
  split
  · rw [show x % n - ((0 : Nat) : Int) = x % n by omega]; omega
  · have e : ((n.natAbs : Nat) : Int) = n := by omega
    rw [e]; omega

theorem roll_any (l : List Int) (A : Option Addr) (c : Nat) (w : World) (hr : RdI w .i64 A l) (hl : l.length ≤ 1000000) (hi : ∀ n ∈ l, I64 n) :
    Calls Tryz.prog 7 #[.slice A l.length c] w fun e w' => e = .returned (.pointer (some ⟨w.heap.size, 0, none⟩)) ∧ Di w' w.heap.size ∧ Below w.heap.size w w' := by
  have hA' : l = [] ∨ ∃ b off, A = some ⟨b, off, none⟩ ∧ b < w.heap.size := by
    rcases Nat.eq_zero_or_pos l.length with h | h
    · exact .inl (List.length_eq_zero_iff.1 h)
    · obtain ⟨b, off, e, hb, _⟩ := hr 0 h
      exact .inr ⟨b, off, e, hb⟩
  have HA := Lib.hid hA'
  have Hi := Lib.hid hi
  have HR := Lib.hid hr
  clear hA' hi hr
  go_enter Tryz.func7, Tryz.ntmps7
  go_wp2_with fail
  go_ret
  refine ⟨rfl, ?_, by (repeat (first | with_reducible exact Below.refl _ _ | with_reducible refine bl_drewN ?_ _ | with_reducible refine Below.drew ?_ | with_reducible refine bl_alloc ?_ _ | with_reducible refine Below.alloc ?_ (by first | omega | (simp; done) | (simp; omega)) _ | with_reducible refine Below.setCell ?_ (by first | omega | (simp; done) | (simp; omega)) _ | with_reducible assumption))⟩
  exact ⟨A, c, l, 0, by exact Bk.new' rfl, by omega, hl, Hi.out, HR.out.alloc _, HA.out⟩

theorem light_any (l : List Int) (A : Option Addr) (c : Nat) (w : World) :
    Calls Tryz.prog 5 #[.slice A l.length c] w fun e w' => e = .returned (.bool (decide (l.length ≤ 600))) ∧ w = w' := by
  by_cases h : l.length ≤ 600
  · have h' : decide ((l.length : Int) ≤ 600) = true := decide_eq_true (by omega)
    have H := Lib.hid (decide_eq_true h)
    go_enter Tryz.func5, Tryz.ntmps5
    go_wp2_with fail
    go_ret
    exact ⟨ret_bool H.out.symm, rfl⟩
  · have h' : decide ((l.length : Int) ≤ 600) = false := decide_eq_false (by omega)
    have H := Lib.hid (decide_eq_false h)
    go_enter Tryz.func5, Tryz.ntmps5
    go_wp2_with fail
    go_ret
    exact ⟨ret_bool H.out.symm, rfl⟩

set_option maxHeartbeats 400000 in
theorem next_any (tp : Nat) (n : Int) (w : World) (ht : Di w tp) (h1 : 1 ≤ n) (h2 : n ≤ 1000000000) :
    Calls Tryz.prog 23 #[.pointer (some ⟨tp, 0, none⟩), .int .i64 n] w (DI (fun x => 0 ≤ x ∧ x < n) tp w) := by
  obtain ⟨A, c, l, k, hB, hk, hl, hi, hr, hA⟩ := ht
  have c0 : w.cell? ⟨tp, 0, none⟩ = some (.slice A l.length c) := hB.cell 0
  have c1 : w.cell? ⟨tp, 1, none⟩ = some (.int .i64 k) := hB.cell 1
  have f1 : w.frozen? ⟨tp, 1, none⟩ = false := hB.frozen 1
  have hn : decide (n < 1) = false := decide_eq_false (by omega)
  have Hi := Lib.hid hi
  clear hi
  by_cases hlt : k < l.length
  · obtain ⟨b, off, rfl, hbl, hc⟩ := hr k hlt
    have hA' : Away tp (some ⟨b, off, none⟩) := by
      rcases hA with h | ⟨b', off', e, h⟩
      · subst h; simp at hlt
      · cases e; exact Away.some (by simp; omega)
    have hb : b ≠ tp := hA' _ rfl
    obtain ⟨hx0, hx1⟩ := Hi.out _ (gi_mem l k hlt)
    obtain ⟨ht0, ht1⟩ := tmod_pos (gi l k) n h1
    have hlt' : (k : Int) < l.length := by omega
    have hk0 : (0 : Int) ≤ k := by omega
    have hd : decide (l.length ≤ k) = false := by simp; omega
    by_cases hs : 0 ≤ (gi l k).tmod n
    · have hs' : decide ((gi l k).tmod n < 0) = false := decide_eq_false (by omega)
      go_enter Tryz.func23, Tryz.ntmps23
      go_wp2_with fail
      go_quiet (fail)
      go_wp2_with fail
      go_quiet (fail)
      go_wp2_with fail
      go_ret
      refine ⟨(gi l k).tmod n, ⟨by omega, by omega⟩, rfl, ⟨_, c, l, k + 1, ?_, by omega, hl, Hi.out, ?_, hA⟩, ?_⟩
      · exact hB.set 1 (.int .i64 ((k : Int) + 1))
      · exact hr.grown (gb_set (gb_drewN (gb_refl _ _) _) (.inl rfl) _) hA'
      · exact gb_set (gb_drewN (gb_refl _ _) _) (.inl rfl) _
    · have hs' : decide ((gi l k).tmod n < 0) = true := decide_eq_true (by omega)
      go_enter Tryz.func23, Tryz.ntmps23
      go_wp2_with fail
      go_quiet (fail)
      go_wp2_with fail
      go_quiet (fail)
      go_wp2_with fail
      go_ret
      refine ⟨(gi l k).tmod n + n, ⟨by omega, by omega⟩, rfl, ⟨_, c, l, k + 1, ?_, by omega, hl, Hi.out, ?_, hA⟩, ?_⟩
      · exact hB.set 1 (.int .i64 ((k : Int) + 1))
      · exact hr.grown (gb_set (gb_drewN (gb_refl _ _) _) (.inl rfl) _) hA'
      · exact gb_set (gb_drewN (gb_refl _ _) _) (.inl rfl) _
  · have hd : decide (l.length ≤ k) = true := by simp; omega
    go_enter Tryz.func23, Tryz.ntmps23
    go_wp2_with fail
    go_quiet (fail)
    go_wp2_with fail
    go_ret
    exact ⟨0, ⟨by omega, by omega⟩, rfl, ⟨A, c, l, k, hB, hk, hl, Hi.out, hr, hA⟩, gb_drewN (gb_refl _ _) _⟩

end Go.Proofs.YtdikoffppjoomaaGreat.Dc
