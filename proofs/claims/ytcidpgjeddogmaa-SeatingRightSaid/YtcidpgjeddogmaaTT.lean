/- Walks: the tape of numbers from which the statements make their values. -/
import Derived.Test.YtcidpgjeddogmaaTP
import Derived.WalkKit
import Derived.WalkSpells
import Derived.WalkLawsBesides
import Derived.Deep.QuietTactic
import Derived.BigQuiet
import Derived.Deep.Draws
import Derived.Deep.AppendLies
import Derived.Laws.OwnMore
import Derived.Laws.BytesArg
import Derived.Lib.Hide
import Derived.Deep.LoopGhost
namespace Go.Proofs.Ytcidpgjeddogmaa.Tm
open Go.RowKit Go.Proofs.Ytcidpgjeddogmaa.Mw
set_option linter.unusedVariables false
set_option linter.unusedSimpArgs false

/-- Block tp is a tape of at most 600 numbers. -/
def Tp (w : World) (tp : Nat) : Prop := ∃ (A : Option Addr) (c : Nat) (l : List Int) (k : Nat), Bk w tp 66 #[.slice A l.length c, .int .i64 k] ∧ k ≤ l.length ∧ l.length ≤ 600 ∧ (∀ n ∈ l, I64 n) ∧ RdI w .i64 A l ∧ (l = [] ∨ ∃ b off, A = some ⟨b, off, none⟩ ∧ b < tp)
theorem Tp.lt {w : World} {tp : Nat} (h : Tp w tp) : tp < w.heap.size := by obtain ⟨_, _, _, _, hB, _⟩ := h; exact hB.lt
theorem Tp.old {w w' : World} {tp : Nat} (h : Tp w tp) (hb : Below w.heap.size w w') : Tp w' tp := by
  obtain ⟨A, c, l, k, hB, h1, h2, h3, h4, h5⟩ := h
  exact ⟨A, c, l, k, hB.old hb, h1, h2, h3, h4.old hb, h5⟩
theorem Tp.alloc {w : World} {tp : Nat} (h : Tp w tp) (o : Obj) : Tp (w.alloc o) tp := h.old ((Below.refl _ _).alloc (Nat.le_refl _) o)
theorem Tp.drewN {w : World} {tp : Nat} (h : Tp w tp) (n : Nat) : Tp (w.drewN n) tp := h
theorem Tp.far {w : World} {tp : Nat} (h : Tp w tp) {p : Addr} (hp : tp < p.block) (u : Value) : Tp (w.setCell p u) tp := by
  obtain ⟨A, c, l, k, hB, h1, h2, h3, h4, h5⟩ := h
  refine ⟨A, c, l, k, hB.far (by omega) u, h1, h2, h3, ?_, h5⟩
  rcases h5 with h5 | ⟨b, off, rfl, hb⟩
  · subst h5; exact RdI.nil _ _ _
  · exact h4.far (Away.some (by simp; omega)) u
theorem Tp.drew {w : World} {tp : Nat} (h : Tp w tp) : Tp w.drew tp := h
/-- The ending is a number with a property; the tape alone has turned. -/
def TI (P : Int → Prop) (tp : Nat) (w : World) (e : Ending) (w' : World) : Prop := ∃ x : Int, P x ∧ e = .returned (.int .i64 x) ∧ Tp w' tp ∧ w.grownBy w' (some tp)
def TB (tp : Nat) (w : World) (e : Ending) (w' : World) : Prop := ∃ x : Bool, e = .returned (.bool x) ∧ Tp w' tp ∧ w.grownBy w' (some tp)

set_option maxHeartbeats 400000 in
theorem new_any (l : List Int) (A : Option Addr) (c : Nat) (w : World) (hr : RdI w .i64 A l) (hl : l.length ≤ maxLen) (hlc : l.length ≤ c) (hi : ∀ n ∈ l, I64 n) :
    Calls Try.prog 14 #[.slice A l.length c] w fun e w' => e = .returned (.pointer (some ⟨w.heap.size, 0, none⟩)) ∧ Tp w' w.heap.size ∧ Below w.heap.size w w' := by
  unfold maxLen at hl
  have hA' : l = [] ∨ ∃ b off, A = some ⟨b, off, none⟩ ∧ b < w.heap.size := by
    rcases Nat.eq_zero_or_pos l.length with h | h
    · exact .inl (List.length_eq_zero_iff.1 h)
    · obtain ⟨b, off, e, hb, _⟩ := hr 0 h
      exact .inr ⟨b, off, e, hb⟩
  have HA := Lib.hid hA'
  have Hi := Lib.hid hi
  have HR := Lib.hid hr
  clear hA' hi hr
  by_cases hlt : l.length ≤ 600
  · have hd : decide (600 < (l.length : Int)) = false := by simp; omega
    go_enter Try.func14, Try.ntmps14
    go_wp2_with fail
    go_ret
    refine ⟨rfl, ?_, by (repeat (first | with_reducible exact Below.refl _ _ | with_reducible refine bl_drewN ?_ _ | with_reducible refine Below.drew ?_ | with_reducible refine bl_alloc ?_ _ | with_reducible refine Below.alloc ?_ (by first | omega | (simp; done) | (simp; omega)) _ | with_reducible refine Below.setCell ?_ (by first | omega | (simp; done) | (simp; omega)) _ | with_reducible assumption))⟩
    exact ⟨A, c, l, 0, by exact Bk.new' rfl, by omega, hlt, Hi.out, HR.out.alloc _, HA.out⟩
  · have hd : decide (600 < (l.length : Int)) = true := by simp; omega
    go_enter Try.func14, Try.ntmps14
    have hlc' : (600 : Int) ≤ c := by omega
    go_wp2_with fail
    go_ret
    refine ⟨rfl, ⟨A, c, l.take 600, 0, ?_, by omega, by simp; omega, fun n hn => Hi.out n (List.mem_of_mem_take hn), ?_, ?_⟩, by (repeat (first | with_reducible exact Below.refl _ _ | with_reducible refine bl_drewN ?_ _ | with_reducible refine Below.drew ?_ | with_reducible refine bl_alloc ?_ _ | with_reducible refine Below.alloc ?_ (by first | omega | (simp; done) | (simp; omega)) _ | with_reducible refine Below.setCell ?_ (by first | omega | (simp; done) | (simp; omega)) _ | with_reducible assumption))⟩
    · rw [show (l.take 600).length = 600 by simp; omega]
      exact Bk.new' rfl
    · intro i hi
      have hi' : i < 600 := by simp at hi; omega
      obtain ⟨b, off, e, hb, hc⟩ := HR.out.alloc (.cells #[.slice A 600 c, .int .i64 0] 66) i (by omega)
      refine ⟨b, off, e, hb, hc.trans ?_⟩
      congr 2
      unfold gi
      rw [List.getD_eq_getElem?_getD, List.getD_eq_getElem?_getD, List.getElem?_take_of_lt hi']
    · rcases HA.out with h | h
      · subst h; simp at hlt
      · exact .inr h

set_option maxHeartbeats 400000 in
theorem raw_any (tp : Nat) (w : World) (ht : Tp w tp) : Calls Try.prog 46 #[.pointer (some ⟨tp, 0, none⟩)] w (TI I64 tp w) := by
  obtain ⟨A, c, l, k, hB, hk, hl, hi, hr, hA⟩ := ht
  have c0 : w.cell? ⟨tp, 0, none⟩ = some (.slice A l.length c) := hB.cell 0
  have c1 : w.cell? ⟨tp, 1, none⟩ = some (.int .i64 k) := hB.cell 1
  have f1 : w.frozen? ⟨tp, 1, none⟩ = false := hB.frozen 1
  have Hi := Lib.hid hi
  clear hi
  by_cases hlt : k < l.length
  · obtain ⟨b, off, rfl, hbl, hc⟩ := hr k hlt
    have hA' : Away tp (some ⟨b, off, none⟩) := by
      rcases hA with h | ⟨b', off', e, h⟩
      · subst h; simp at hlt
      · cases e; exact Away.some (by simp; omega)
    have hb : b ≠ tp := hA' _ rfl
    have hx := Hi.out _ (gi_mem l k hlt)
    have hg : w.grownBy (w.setCell ⟨tp, 1, none⟩ (.int .i64 ((k : Int) + 1))) (some tp) := gb_set (gb_refl _ _) (.inl rfl) _
    have hc' : (w.setCell ⟨tp, 1, none⟩ (.int .i64 ((k : Int) + 1))).cell? ⟨b, off + k, none⟩ = some (.int .i64 (gi l k)) := (World.cell?_setCell_other _ _ _ _ (fun e => hb (by have := congrArg Addr.block e; exact this.symm))).trans hc
    have hlt' : (k : Int) < l.length := by omega
    have hk0 : (0 : Int) ≤ k := by omega
    have hd : decide (l.length ≤ k) = false := by simp; omega
    go_enter Try.func46, Try.ntmps46
    go_wp2_with fail
    go_quiet (fail)
    go_wp2_with fail
    go_quiet (fail)
    go_wp2_with fail
    go_ret
    refine ⟨gi l k, hx, rfl, ⟨_, c, l, k + 1, ?_, by omega, hl, Hi.out, ?_, hA⟩, ?_⟩
    · have := hB.set 1 (.int .i64 ((k : Int) + 1))
      exact this
    · exact hr.grown (gb_drewN (gb_set (gb_drewN (gb_refl _ _) _) (.inl rfl) _) _) hA'
    · exact gb_drewN (gb_set (gb_drewN (gb_refl _ _) _) (.inl rfl) _) _
  · have hd : decide (l.length ≤ k) = true := by simp; omega
    go_enter Try.func46, Try.ntmps46
    go_wp2_with fail
    go_quiet (fail)
    go_wp2_with fail
    go_ret
    exact ⟨0, by unfold I64; omega, rfl, ⟨A, c, l, k, hB, hk, hl, Hi.out, hr, hA⟩, gb_drewN (gb_refl _ _) _⟩
end Go.Proofs.Ytcidpgjeddogmaa.Tm
