/- An item under construction: plain facts on its memory. -/
import Derived.Test.YtokddjohdodkmaaTW
namespace Go.Proofs.Ytokddjohdodkmaa.Tm
open Go.RowKit Go.Proofs.Ytokddjohdodkmaa.Mw
set_option linter.unusedVariables false
set_option linter.unusedSimpArgs false

theorem own_ne {w : World} {b b' : Nat} {e e' : TypeId} {s s' n n' : Nat} {v v' : Value} {xs xs' : List Value} (h : w.ownsRow b e s v n xs) (h' : w.ownsRow b' e' s' v' n' xs') (hne : e ≠ e') : v.ownBlock = none ∨ v.ownBlock ≠ v'.ownBlock := by
  rcases h.2 with ⟨rfl, _⟩ | ⟨g, cap, cur, rfl, _, hg, _⟩
  · exact .inl rfl
  · refine .inr (fun he => ?_)
    rcases h'.2 with ⟨rfl, _⟩ | ⟨g', cap', cur', rfl, _, hg', _⟩
    · cases he
    · have : g = g' := by simpa [Value.ownBlock] using he
      subst this
      rw [hg] at hg'
      injection hg' with hg'
      injection hg' with _ ht
      exact hne ht
theorem own_away {w w' : World} {b : Nat} {e : TypeId} {s n r : Nat} {v : Value} {xs : List Value} (h : w.ownsRow b e s v n xs) (hg : w.grownBy w' (some r)) (hr : r < b) : w'.ownsRow b e s v n xs :=
  h.kept hg (.inr (fun e => by have := (h.lt r (by rw [e])).1; omega))
theorem own_set {w : World} {b : Nat} {e : TypeId} {s n : Nat} {v : Value} {xs : List Value} (h : w.ownsRow b e s v n xs) {p : Addr} (hr : p.block < b) (u : Value) : (w.setCell p u).ownsRow b e s v n xs :=
  own_away h (gb_set (gb_refl _ (some p.block)) (.inl rfl) u) hr

theorem tape_grown {w w' : World} {tp b : Nat} {e : TypeId} {s n : Nat} {v : Value} {xs : List Value} (ht : Tp w tp) (ho : w.ownsRow b e s v n xs) (hb : tp < b) (hg : w.grownBy w' v.ownBlock) : Tp w' tp := by
  obtain ⟨A, c, l, k, hB, h1, h2, h3, h4, h5⟩ := ht
  refine ⟨A, c, l, k, hB.grown hg (fun e => by have := (ho.lt tp e.symm).1; omega), h1, h2, h3, ?_, h5⟩
  rcases h5 with h5 | ⟨b', off, rfl, hlt⟩
  · subst h5; exact RdI.nil _ _ _
  · intro i hi
    obtain ⟨b1, off1, e1, hl1, hc1⟩ := h4 i hi
    cases e1
    exact ⟨_, _, rfl, Nat.lt_of_lt_of_le hl1 hg.size, (World.cell?_of_block (a := ⟨b', off + i, none⟩) (hg.block b' hl1 (fun e => by have := (ho.lt b' e.symm).1; omega))).trans hc1⟩
end Go.Proofs.Ytokddjohdodkmaa.Tm
