/- Words for memory: schemes under construction. -/
import Derived.Test.YtokddjohdodkmaaHK
import Derived.Test.YtokddjohdodkmaaTPB
import Derived.Test.YtokddjohdodkmaaAM
import Derived.Deep.DeepCutAuto
import Derived.Deep.RegionLaw
import Derived.Deep.AppendLies
import Derived.WalkKit
import Derived.WalkSpells
import Derived.WalkLawsBesides
import Derived.Deep.QuietTactic
import Derived.BigQuiet
import Derived.Deep.Draws
import Derived.Deep.AppendLies
import Derived.Laws.OwnMore
import Derived.Laws.BytesArg
import Derived.Lib.Hide
import Derived.Deep.LoopGhost
import Derived.Deep.CutBlock
namespace Go.Proofs.Ytokddjohdodkmaa.Tm
open Go.RowKit Go.Proofs.Ytokddjohdodkmaa.Mw
set_option linter.unusedVariables false
set_option linter.unusedSimpArgs false

/-- Keys as a row of the call's own. -/
def OwnK (w : World) (b : Nat) (k : Ky) : Prop := w.ownsRow b 3 1 (kv k) k.l.length (k.l.map (Value.int .i64))
theorem OwnK.rd {w : World} {b : Nat} {k : Ky} (h : OwnK w b k) : RdI w .i64 k.A k.l := RdI.own h
theorem OwnK.lt {w : World} {b : Nat} {k : Ky} (h : OwnK w b k) : ∀ a, k.A = some a → b ≤ a.block ∧ a.block < w.heap.size := fun a ha => by
  unfold OwnK kv at h
  rw [ha] at h
  rcases h.2 with ⟨e, _⟩ | ⟨g, cap, cur, e, h1, h2, _⟩
  · cases e
  · cases e
    refine ⟨h1, ?_⟩
    rcases Nat.lt_or_ge g w.heap.size with h3 | h3
    · exact h3
    · rw [Array.getElem?_eq_none h3] at h2; cases h2
theorem own_blk {A : Option Addr} {n c : Nat} {q : Nat} (h : (Value.slice A n c).ownBlock = some q) : ∃ a, A = some a ∧ a.block = q := by
  cases A with
  | none => simp [Value.ownBlock] at h
  | some a => exact ⟨a, rfl, by simpa [Value.ownBlock] using h⟩
/-- What is known while a scheme is made: its rows, its keys, the tape, the blocks that the call has laid. -/
structure SJ (w : World) (g tp : Nat) (pc : Array Value) (wr : World) (ks : List Ky) (wd : List Int) (vK vW : Value) : Prop where
  okk : wr.ownsRow (g + 1) 22 1 vK ks.length (ks.map kv)
  oww : wr.ownsRow (g + 1) 3 1 vW wd.length (wd.map (Value.int .i64))
  ok : ∀ i, i < ks.length → OwnK wr (g + 1) (gk ks i)
  nk : ∀ i, i < ks.length → ∀ a, (gk ks i).A = some a → vK.ownBlock ≠ some a.block ∧ vW.ownBlock ≠ some a.block
  dk : ∀ i j, i < ks.length → j < ks.length → i ≠ j → ∀ a b, (gk ks i).A = some a → (gk ks j).A = some b → a.block ≠ b.block
  ta : Tp wr tp
  be : w.grownBy wr (some tp)
  lt : tp < w.heap.size
  lg : g = w.heap.size + 1 + 1
  r0 : Bk wr w.heap.size 27 pc
  r1 : Bk wr (w.heap.size + 1) 31 #[.slice none 0 0, .slice none 0 0]
section
variable {w wr w' : World} {g tp : Nat} {pc : Array Value} {ks : List Ky} {wd : List Int} {vK vW : Value}
/-- A turn of the world that leaves what lies above g + 1, and the blocks of the call, alone. -/
theorem SJ.step (h : SJ w g tp pc wr ks wd vK vW) {row : Option Nat} (hg : wr.grownBy w' row) (hr : ∀ q, row = some q → q < g + 1) (h0 : row ≠ some w.heap.size) (h1 : row ≠ some (w.heap.size + 1)) (ht : Tp w' tp) (hb : w.grownBy w' (some tp)) : SJ w g tp pc w' ks wd vK vW := by
  have ne : ∀ (e : TypeId) (v : Value) (n : Nat) (xs : List Value), wr.ownsRow (g + 1) e 1 v n xs → w'.ownsRow (g + 1) e 1 v n xs := fun e v n xs ho =>
    ho.kept hg (by
      cases hv : v.ownBlock with
      | none => exact .inl rfl
      | some q => exact .inr (fun e => by have := (ho.lt q hv).1; have := hr q e.symm; omega))
  exact ⟨ne _ _ _ _ h.okk, ne _ _ _ _ h.oww, fun i hi => ne _ _ _ _ (h.ok i hi), h.nk, h.dk, ht, hb, h.lt, h.lg, h.r0.grown hg (fun e => h0 e.symm), h.r1.grown hg (fun e => h1 e.symm)⟩
theorem SJ.old (h : SJ w g tp pc wr ks wd vK vW) (hb : Below wr.heap.size wr w') : SJ w g tp pc w' ks wd vK vW :=
  h.step (row := none) ⟨hb.os, hb.tape, hb.output, hb.size, fun i hi _ => hb.block i hi⟩ (fun q hq => by cases hq) (by simp) (by simp) (h.ta.old hb) (gb_below h.be hb)
theorem SJ.alloc (h : SJ w g tp pc wr ks wd vK vW) (o : Obj) : SJ w g tp pc (wr.alloc o) ks wd vK vW := h.old ((Below.refl _ _).alloc (Nat.le_refl _) o)
theorem SJ.drew (h : SJ w g tp pc wr ks wd vK vW) : SJ w g tp pc wr.drew ks wd vK vW := h.old (Below.drew (Below.refl _ _))
theorem SJ.turn (h : SJ w g tp pc wr ks wd vK vW) (hg : wr.grownBy w' (some tp)) (ht : Tp w' tp) : SJ w g tp pc w' ks wd vK vW :=
  h.step hg (fun q hq => by cases hq; have := h.lt; have := h.lg; omega) (by have := h.lt; simp; omega) (by have := h.lt; simp; omega) ht (gb_trans h.be hg)
theorem SJ.set (h : SJ w g tp pc wr ks wd vK vW) (i : Nat) (u : Value) : SJ w g tp pc (wr.setCell ⟨g, i, none⟩ u) ks wd vK vW :=
  h.step (row := some g) (gb_set (gb_refl _ _) (p := ⟨g, i, none⟩) (.inl rfl) u) (fun q hq => by cases hq; omega) (by have := h.lg; simp; omega) (by have := h.lg; simp; omega) (h.ta.far (by have := h.lt; have := h.lg; simp; omega) u) (gb_set h.be (p := ⟨g, i, none⟩) (.inr (by have := h.lg; simp; omega)) u)
theorem tp_row (h : SJ w g tp pc wr ks wd vK vW) {e : TypeId} {v : Value} {n : Nat} {xs : List Value} (ho : wr.ownsRow (g + 1) e 1 v n xs) (hg : wr.grownBy w' v.ownBlock) : Tp w' tp ∧ w.grownBy w' (some tp) ∧ Bk w' w.heap.size 27 pc ∧ Bk w' (w.heap.size + 1) 31 #[.slice none 0 0, .slice none 0 0] := by
  have l1 := h.lt
  have l2 := h.lg
  exact ⟨tape_grown h.ta ho (by omega) hg, gb_grown h.be hg (fun q hq => by have := (ho.lt q hq).1; omega), h.r0.grown hg (fun e => by have := (ho.lt _ e.symm).1; omega), h.r1.grown hg (fun e => by have := (ho.lt _ e.symm).1; omega)⟩
/-- One more slice of keys. -/
theorem SJ.addK {k : Ky} {g4 cap : Nat} (h : SJ w g tp pc wr ks wd vK vW) (hg : wr.grownBy w' vK.ownBlock) (ho : w'.ownsRow (g + 1) 22 1 (.slice (some ⟨g4, 0, none⟩) (ks.length + 1) cap) (ks.length + 1) (ks.map kv ++ [kv k])) (hat : vK.ownBlock = some g4 ∨ g4 = wr.heap.size)
    (hk : OwnK wr (g + 1) k) (hkn : ∀ a, k.A = some a → vK.ownBlock ≠ some a.block ∧ vW.ownBlock ≠ some a.block) (hkd : ∀ i, i < ks.length → ∀ a b, (gk ks i).A = some a → k.A = some b → a.block ≠ b.block) : SJ w g tp pc w' (ks ++ [k]) wd (.slice (some ⟨g4, 0, none⟩) (ks.length + 1) cap) vW := by
  obtain ⟨t1, t2, t3, t4⟩ := tp_row h h.okk hg
  have keep : ∀ (v : Value) (n : Nat) (xs : List Value), wr.ownsRow (g + 1) 3 1 v n xs → w'.ownsRow (g + 1) 3 1 v n xs := fun v n xs hv =>
    hv.kept hg (own_ne hv h.okk (by decide))
  have g4ne : ∀ (v : Value) (n : Nat) (xs : List Value) (q : Nat), wr.ownsRow (g + 1) 3 1 v n xs → v.ownBlock = some q → g4 ≠ q := fun v n xs q hv hq e => by
    subst e
    rcases hat with hat | hat
    · rcases own_ne hv h.okk (by decide) with e | e
      · rw [hq] at e; cases e
      · rw [hq, hat] at e; exact e rfl
    · have := (hv.lt _ hq).2; omega
  have all : ∀ i, i < (ks ++ [k]).length → (i < ks.length ∧ gk (ks ++ [k]) i = gk ks i) ∨ (i = ks.length ∧ gk (ks ++ [k]) i = k) := fun i hi => by
    by_cases hlt : i < ks.length
    · exact .inl ⟨hlt, gk_left ks [k] i hlt⟩
    · have : i = ks.length := by simp at hi; omega
      subst this
      exact .inr ⟨rfl, gk_snoc ks k⟩
  have blk : ∀ (k : Ky) (a : Addr), OwnK wr (g + 1) k → k.A = some a → (kv k).ownBlock = some a.block := fun k a _ ha => by unfold kv; rw [ha]; rfl
  refine ⟨by rw [List.length_append, List.map_append]; exact ho, keep _ _ _ h.oww, fun i hi => ?_, fun i hi a ha => ?_, fun i j hi hj hij a b ha hb => ?_, t1, t2, h.lt, h.lg, t3, t4⟩
  · rcases all i hi with ⟨hlt, e⟩ | ⟨_, e⟩ <;> rw [e]
    · exact keep _ _ _ (h.ok i hlt)
    · exact keep _ _ _ hk
  · rcases all i hi with ⟨hlt, e⟩ | ⟨_, e⟩ <;> rw [e] at ha
    · exact ⟨fun e' => g4ne _ _ _ _ (h.ok i hlt) (blk _ a (h.ok i hlt) ha) (by simpa [Value.ownBlock] using e'), (h.nk i hlt a ha).2⟩
    · exact ⟨fun e' => g4ne _ _ _ _ hk (blk _ a hk ha) (by simpa [Value.ownBlock] using e'), (hkn a ha).2⟩
  · rcases all i hi with ⟨h1, e1⟩ | ⟨h1, e1⟩ <;> rcases all j hj with ⟨h2, e2⟩ | ⟨h2, e2⟩ <;> rw [e1] at ha <;> rw [e2] at hb
    · exact h.dk i j h1 h2 hij a b ha hb
    · exact hkd i h1 a b ha hb
    · exact fun e => hkd j h2 b a hb ha e.symm
    · omega
/-- One more kind of withdrawal. -/
theorem SJ.addW {n : Int} {g4 cap : Nat} (h : SJ w g tp pc wr ks wd vK vW) (hg : wr.grownBy w' vW.ownBlock) (ho : w'.ownsRow (g + 1) 3 1 (.slice (some ⟨g4, 0, none⟩) (wd.length + 1) cap) (wd.length + 1) (wd.map (Value.int .i64) ++ [.int .i64 n])) (hat : vW.ownBlock = some g4 ∨ g4 = wr.heap.size) : SJ w g tp pc w' ks (wd ++ [n]) vK (.slice (some ⟨g4, 0, none⟩) (wd.length + 1) cap) := by
  obtain ⟨t1, t2, t3, t4⟩ := tp_row h h.oww hg
  refine ⟨h.okk.kept hg (own_ne h.okk h.oww (by decide)), by rw [List.length_append, List.map_append]; exact ho, fun i hi => (h.ok i hi).kept hg ?_, fun i hi a ha => ⟨(h.nk i hi a ha).1, fun e => ?_⟩, h.dk, t1, t2, h.lt, h.lg, t3, t4⟩
  · cases hv : (kv (gk ks i)).ownBlock with
    | none => exact .inl rfl
    | some q =>
      obtain ⟨a, ha, hq⟩ := own_blk hv
      exact .inr (fun e => (h.nk i hi a ha).2 (by rw [← e, hq]))
  · have e' : g4 = a.block := by simpa [Value.ownBlock] using e
    rcases hat with hat | hat
    · exact (h.nk i hi a ha).2 (by rw [hat, e'])
    · have := ((h.ok i hi).lt a ha).2; omega
end
end Go.Proofs.Ytokddjohdodkmaa.Tm
