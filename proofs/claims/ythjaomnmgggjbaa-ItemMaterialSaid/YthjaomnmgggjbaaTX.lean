/- An item under construction: plain facts on its memory. -/
import Derived.Test.YthjaomnmgggjbaaTW
namespace Go.Proofs.Ythjaomnmgggjbaa.Tm
open Go.RowKit Go.Proofs.Ythjaomnmgggjbaa.Mw
set_option linter.unusedVariables false

theorem own_ne {w : World} {b b' : Nat} {e e' : TypeId} {s s' n n' : Nat} {v v' : Value} {xs xs' : List Value} (h : w.ownsRow b e s v n xs) (h' : w.ownsRow b' e' s' v' n' xs') (hne : e ≠ e') : v.ownBlock = none ∨ v.ownBlock ≠ v'.ownBlock := by
  rcases h.2 with ⟨rfl, _⟩ | ⟨g, cap, cur, rfl, _, hg, _⟩
  · exact .inl rfl
  · refine .inr (fun he => ?_)
    rcases h'.2 with ⟨rfl, _⟩ | ⟨g', cap', cur', rfl, _, hg', _⟩
    · cases he
    · have : g = g' := by simpa [Value.ownBlock] using he
      subst this
      rw [hg] at hg'
      injection hg' with hg'
      injection hg' with _ ht
      exact hne ht
theorem own_away {w w' : World} {b : Nat} {e : TypeId} {s n r : Nat} {v : Value} {xs : List Value} (h : w.ownsRow b e s v n xs) (hg : w.grownBy w' (some r)) (hr : r < b) : w'.ownsRow b e s v n xs :=
  h.kept hg (.inr (fun e => by have := (h.lt r (by rw [e])).1; omega))
theorem own_set {w : World} {b : Nat} {e : TypeId} {s n : Nat} {v : Value} {xs : List Value} (h : w.ownsRow b e s v n xs) {p : Addr} (hr : p.block < b) (u : Value) : (w.setCell p u).ownsRow b e s v n xs :=
  own_away h (gb_set (gb_refl _ (some p.block)) (.inl rfl) u) hr

/-- The memory of an item under construction: its struct in block g, its two rows in later blocks, the tape in an earlier one. -/
structure IS (w : World) (g tp : Nat) (x : It) (vP vE : Value) : Prop where
  bk : Bk w g 33 #[.int .i64 x.id, .int .i64 x.ver, .string x.stem, vP, vE]
  ps : w.ownsRow (g + 1) 23 6 vP x.ps.length (x.ps.flatMap pl)
  en : w.ownsRow (g + 1) 3 1 vE x.en.length (x.en.map (Value.int .i64))
  tape : Tp w tp
  lt : tp < g
theorem IS.turn {w w' : World} {g tp : Nat} {x : It} {vP vE : Value} (h : IS w g tp x vP vE) (hg : w.grownBy w' (some tp)) (ht : Tp w' tp) : IS w' g tp x vP vE :=
  ⟨h.bk.kept hg (by have := h.lt; omega), own_away h.ps hg (by have := h.lt; omega), own_away h.en hg (by have := h.lt; omega), ht, h.lt⟩
theorem IS.old {w w' : World} {g tp : Nat} {x : It} {vP vE : Value} (h : IS w g tp x vP vE) (hb : Below w.heap.size w w') : IS w' g tp x vP vE :=
  ⟨h.bk.old hb, h.ps.kept (gb_of none hb) (by cases hv : vP.ownBlock <;> simp), h.en.kept (gb_of none hb) (by cases hv : vE.ownBlock <;> simp), h.tape.old hb, h.lt⟩
theorem IS.alloc {w : World} {g tp : Nat} {x : It} {vP vE : Value} (h : IS w g tp x vP vE) (o : Obj) : IS (w.alloc o) g tp x vP vE := h.old ((Below.refl _ _).alloc (Nat.le_refl _) o)
theorem tape_grown {w w' : World} {tp b : Nat} {e : TypeId} {s n : Nat} {v : Value} {xs : List Value} (ht : Tp w tp) (ho : w.ownsRow b e s v n xs) (hb : tp < b) (hg : w.grownBy w' v.ownBlock) : Tp w' tp := by
  obtain ⟨A, c, l, k, hB, h1, h2, h3, h4, h5⟩ := ht
  refine ⟨A, c, l, k, hB.grown hg (fun e => by have := (ho.lt tp e.symm).1; omega), h1, h2, h3, ?_, h5⟩
  rcases h5 with h5 | ⟨b', off, rfl, hlt⟩
  · subst h5; exact RdI.nil _ _ _
  · intro i hi
    obtain ⟨b1, off1, e1, hl1, hc1⟩ := h4 i hi
    cases e1
    exact ⟨_, _, rfl, Nat.lt_of_lt_of_le hl1 hg.size, (World.cell?_of_block (a := ⟨b', off + i, none⟩) (hg.block b' hl1 (fun e => by have := (ho.lt b' e.symm).1; omega))).trans hc1⟩
/-- Behind an append to the parts and its store. -/
theorem IS.addP {w w' : World} {g tp : Nat} {x : It} {vP vE v' : Value} {l : List Pt} (h : IS w g tp x vP vE) (hg : w.grownBy w' vP.ownBlock) (ho : w'.ownsRow (g + 1) 23 6 v' (x.ps.length + l.length) (x.ps.flatMap pl ++ l.flatMap pl)) :
    IS (w'.setCell ⟨g, 3, none⟩ v') g tp { x with ps := x.ps ++ l } v' vE := by
  have hlt := h.lt
  have hB := h.bk.grown hg (fun e => by have := (h.ps.lt g e.symm).1; omega)
  refine ⟨hB.set 3 v', ?_, ?_, (tape_grown h.tape h.ps (by omega) hg).far (by simp; omega) _, hlt⟩
  · have := own_set ho (p := ⟨g, 3, none⟩) (by simp) v'
    rw [List.flatMap_append, List.length_append]
    exact this
  · have := h.en.kept hg (own_ne h.en h.ps (by decide))
    exact own_set this (by simp) _
/-- Behind an append to the enemies and its store. -/
theorem IS.addE {w w' : World} {g tp : Nat} {x : It} {vP vE v' : Value} {l : List Int} (h : IS w g tp x vP vE) (hg : w.grownBy w' vE.ownBlock) (ho : w'.ownsRow (g + 1) 3 1 v' (x.en.length + l.length) (x.en.map (Value.int .i64) ++ l.map (Value.int .i64))) :
    IS (w'.setCell ⟨g, 4, none⟩ v') g tp { x with en := x.en ++ l } vP v' := by
  have hlt := h.lt
  have hB := h.bk.grown hg (fun e => by have := (h.en.lt g e.symm).1; omega)
  refine ⟨hB.set 4 v', ?_, ?_, (tape_grown h.tape h.en (by omega) hg).far (by simp; omega) _, hlt⟩
  · have := h.ps.kept hg (own_ne h.ps h.en (by decide))
    exact own_set this (by simp) _
  · have := own_set ho (p := ⟨g, 4, none⟩) (by simp) v'
    rw [List.map_append, List.length_append]
    exact this
theorem IS.put {w : World} {g tp : Nat} {x : It} {vP vE : Value} (h : IS w g tp x vP vE) (i : Nat) (u : Value) : (w.setCell ⟨g, i, none⟩ u).ownsRow (g + 1) 23 6 vP x.ps.length (x.ps.flatMap pl) ∧ (w.setCell ⟨g, i, none⟩ u).ownsRow (g + 1) 3 1 vE x.en.length (x.en.map (Value.int .i64)) ∧ Tp (w.setCell ⟨g, i, none⟩ u) tp :=
  ⟨own_set h.ps (by simp) _, own_set h.en (by simp) _, h.tape.far h.lt _⟩
theorem IS.setId {w : World} {g tp : Nat} {x : It} {vP vE : Value} (h : IS w g tp x vP vE) (v : Int) : IS (w.setCell ⟨g, 0, none⟩ (.int .i64 v)) g tp { x with id := v } vP vE :=
  ⟨h.bk.set 0 _, (h.put 0 _).1, (h.put 0 _).2.1, (h.put 0 _).2.2, h.lt⟩
theorem IS.setVer {w : World} {g tp : Nat} {x : It} {vP vE : Value} (h : IS w g tp x vP vE) (v : Int) : IS (w.setCell ⟨g, 1, none⟩ (.int .i64 v)) g tp { x with ver := v } vP vE :=
  ⟨h.bk.set 1 _, (h.put 1 _).1, (h.put 1 _).2.1, (h.put 1 _).2.2, h.lt⟩
theorem IS.setStem {w : World} {g tp : Nat} {x : It} {vP vE : Value} (h : IS w g tp x vP vE) (v : ByteArray) : IS (w.setCell ⟨g, 2, none⟩ (.string v)) g tp { x with stem := v } vP vE :=
  ⟨h.bk.set 2 _, (h.put 2 _).1, (h.put 2 _).2.1, (h.put 2 _).2.2, h.lt⟩
theorem IS.noParts {w : World} {g tp : Nat} {x : It} {vP vE : Value} (h : IS w g tp x vP vE) : IS (w.setCell ⟨g, 3, none⟩ (.slice none 0 0)) g tp { x with ps := [] } (.slice none 0 0) vE :=
  ⟨h.bk.set 3 _, World.ownsRow_nil _ _ _ _, (h.put 3 _).2.1, (h.put 3 _).2.2, h.lt⟩
end Go.Proofs.Ythjaomnmgggjbaa.Tm
