/- Memory: the list of places that SeatingRight edits (Ed), and what is asked behind the edits (Fin). -/
import Derived.Test.YtcidpgjeddogmaaWX
import Derived.Test.YtcidpgjeddogmaaWL
import Derived.Test.YtcidpgjeddogmaaWN
import Derived.Test.YtcidpgjeddogmaaWU
import Derived.Test.YtcidpgjeddogmaaTU
import Derived.WalkKit
import Derived.WalkSpells
import Derived.WalkLawsBesides
import Derived.Deep.QuietTactic
import Derived.BigQuiet
import Derived.Deep.Draws
import Derived.Deep.AppendLies
import Derived.Laws.OwnMore
import Derived.Laws.BytesArg
import Derived.Lib.Hide
import Derived.Deep.LoopGhost
namespace Go.Proofs.Ytcidpgjeddogmaa.Pl
open Go.RowKit
open Go.Proofs.Ytcidpgjeddogmaa.Mw
open Go.Proofs.Ytcidpgjeddogmaa.St
open Go.Proofs.Ytcidpgjeddogmaa.Tm (cut_any Tp TI TB next_any range_any one_any new_any)
set_option linter.unusedVariables false
set_option linter.unusedSimpArgs false

section
variable {α : Type} [Inhabited α] {k : Nat} {enc : α → List Value} {w w' : World} {tp b : Nat} {A : Option Addr} {l : List α}
/-- A list that lies neither in the tape nor in the block of the places. -/
def Sf (tp b : Nat) (A : Option Addr) (l : List α) : Prop := l = [] ∨ ∀ a, A = some a → a.block ≠ tp ∧ a.block ≠ b
theorem sf_turn (h : RdR k enc w A l) (s : Sf tp b A l) (hg : w.grownBy w' (some tp)) : RdR k enc w' A l := by
  rcases s with rfl | s
  · exact RdR.nil _ _
  · exact h.grown hg fun a ha => (s a ha).1
theorem sf_set (h : RdR k enc w A l) (s : Sf tp b A l) (o : Nat) (u : Value) : RdR k enc (w.setCell ⟨b, o, none⟩ u) A l := by
  rcases s with rfl | s
  · exact RdR.nil _ _
  · exact h.far (fun a ha => (s a ha).2) u
theorem sf_of {w0 w1 : World} (h : RdR k enc w1 A l) (hk : 0 < k) (he : ∀ a, (enc a).length = k) (h1 : ∀ a, A = some a → w0.heap.size ≤ a.block) (ht : tp < w0.heap.size) (hb : w1.heap.size ≤ b) : Sf tp b A l := by
  cases l with
  | nil => exact .inl rfl
  | cons x xs =>
    refine .inr fun a ha => ?_
    obtain ⟨b', off, e, hlt, -⟩ := h 0 (by simp)
    have := h1 a ha
    rw [ha] at e
    cases e
    exact ⟨by omega, by simp at *; omega⟩
end
/-- The places under correction. -/
structure Ed (w : World) (b o : Nat) (rs : List Rm) (ns : List Nd) (A1 A2 : Option Addr) (l : List Pc) (V : World) : Prop where
  tape : Tp V w.heap.size
  r1 : RdRm V A1 rs
  r2 : RdNd V A2 ns
  li : RdR 5 pcl V (some ⟨b, o, none⟩) l
  fr : ∀ x, V.frozen? ⟨b, x, none⟩ = false
  lt : b < V.heap.size
  be : Below w.heap.size w V
  pc : ∀ p, p ∈ l → PcI p
  s1 : Sf w.heap.size b A1 rs
  s2 : Sf w.heap.size b A2 ns
  tb : w.heap.size < b
theorem Ed.turn {w V V' : World} {b o : Nat} {rs : List Rm} {ns : List Nd} {A1 A2 : Option Addr} {l : List Pc} (h : Ed w b o rs ns A1 A2 l V) (ht : Tp V' w.heap.size) (hg : V.grownBy V' (some w.heap.size)) : Ed w b o rs ns A1 A2 l V' :=
  ⟨ht, sf_turn h.r1 h.s1 hg, sf_turn h.r2 h.s2 hg, h.li.grown hg (fun a ha => by cases ha; exact Nat.ne_of_gt h.tb), fun x => ((gcell hg b h.lt (Nat.ne_of_gt h.tb)).2 x).trans (h.fr x), Nat.lt_of_lt_of_le h.lt hg.size, h.be.grown hg h.be.size (fun q hq => by cases hq; exact Nat.le_refl _), h.pc, h.s1, h.s2, h.tb⟩
theorem Ed.drew {w V : World} {b o : Nat} {rs : List Rm} {ns : List Nd} {A1 A2 : Option Addr} {l : List Pc} (h : Ed w b o rs ns A1 A2 l V) : Ed w b o rs ns A1 A2 l V.drew :=
  ⟨h.tape.drew, h.r1.drew, h.r2.drew, h.li.drew, h.fr, h.lt, h.be.drew, h.pc, h.s1, h.s2, h.tb⟩
theorem Ed.set {w V : World} {b o : Nat} {rs : List Rm} {ns : List Nd} {A1 A2 : Option Addr} {l l' : List Pc} (h : Ed w b o rs ns A1 A2 l V) (x : Nat) (u : Value) (hl : RdR 5 pcl (V.setCell ⟨b, x, none⟩ u) (some ⟨b, o, none⟩) l') (hp : ∀ p, p ∈ l' → PcI p) : Ed w b o rs ns A1 A2 l' (V.setCell ⟨b, x, none⟩ u) :=
  ⟨h.tape.far h.tb u, sf_set h.r1 h.s1 x u, sf_set h.r2 h.s2 x u, hl, fun y => by simpa using h.fr y, by simpa using h.lt, h.be.setCell (by have := h.tb; simp; omega) u, hp, h.s1, h.s2, h.tb⟩
theorem Ed.set3 {w V : World} {b o : Nat} {rs : List Rm} {ns : List Nd} {A1 A2 : Option Addr} {l l' : List Pc} (h : Ed w b o rs ns A1 A2 l V) (x y z : Nat) (u1 u2 u3 : Value) (hl : RdR 5 pcl (((V.setCell ⟨b, x, none⟩ u1).setCell ⟨b, y, none⟩ u2).setCell ⟨b, z, none⟩ u3) (some ⟨b, o, none⟩) l') (hp : ∀ p, p ∈ l' → PcI p) : Ed w b o rs ns A1 A2 l' (((V.setCell ⟨b, x, none⟩ u1).setCell ⟨b, y, none⟩ u2).setCell ⟨b, z, none⟩ u3) :=
  ⟨((h.tape.far h.tb u1).far h.tb u2).far h.tb u3, sf_set (sf_set (sf_set h.r1 h.s1 x u1) h.s1 y u2) h.s1 z u3, sf_set (sf_set (sf_set h.r2 h.s2 x u1) h.s2 y u2) h.s2 z u3, hl, fun q => by simpa using h.fr q, by simpa using h.lt, ((h.be.setCell (by have := h.tb; simp; omega) u1).setCell (by have := h.tb; simp; omega) u2).setCell (by have := h.tb; simp; omega) u3, hp, h.s1, h.s2, h.tb⟩
/-- Behind the edits. -/
structure Fin (w : World) (rs : List Rm) (ns : List Nd) (A1 A2 A : Option Addr) (l : List Pc) (n : Nat) (V : World) : Prop where
  r1 : RdRm V A1 rs
  r2 : RdNd V A2 ns
  li : RdR 5 pcl V A l
  be : Below w.heap.size w V
  pc : ∀ p, p ∈ l → PcI p
  ln : l.length ≤ maxLen
  n : l.length = n
  m1 : rs.length ≤ maxLen
  m2 : ns.length ≤ maxLen
theorem Ed.fin {w V : World} {b o : Nat} {rs : List Rm} {ns : List Nd} {A1 A2 : Option Addr} {l : List Pc} {n : Nat} (h : Ed w b o rs ns A1 A2 l V) (hn : l.length = n) (h1 : rs.length ≤ 5) (h2 : ns.length ≤ 8) (h3 : n ≤ 8) : Fin w rs ns A1 A2 (some ⟨b, o, none⟩) l n V :=
  ⟨h.r1, h.r2, h.li, h.be, h.pc, by unfold maxLen; omega, hn, by unfold maxLen; omega, by unfold maxLen; omega⟩
theorem Ed.take {w V : World} {b o : Nat} {rs : List Rm} {ns : List Nd} {A1 A2 : Option Addr} {l : List Pc} (h : Ed w b o rs ns A1 A2 l V) (i : Nat) : Ed w b o rs ns A1 A2 (l.take i) V :=
  ⟨h.tape, h.r1, h.r2, fun x hx => by
    have hx' : x < i ∧ x < l.length := by rw [List.length_take] at hx; omega
    have e : ge (l.take i) x = ge l x := by unfold ge; rw [List.getD_eq_getElem?_getD, List.getD_eq_getElem?_getD, List.getElem?_take_of_lt hx'.1]
    obtain ⟨b', o', e1, e2, e3⟩ := h.li x hx'.2
    exact ⟨b', o', e1, e2, fun y hy => by rw [e]; exact e3 y hy⟩, h.fr, h.lt, h.be, fun p hp => h.pc p (List.mem_of_mem_take hp), h.s1, h.s2, h.tb⟩
theorem Fin.args {w V : World} {rs : List Rm} {ns : List Nd} {A1 A2 A D : Option Addr} {l ps : List Pc} {n : Nat} (h : Fin w rs ns A1 A2 A l n V) (hps : RdR 5 pcl w D ps) (hl : ps.length ≤ maxLen) (hp : ∀ p, p ∈ ps → PcI p) : Fin w rs ns A1 A2 D ps ps.length V :=
  ⟨h.r1, h.r2, hps.old h.be, h.be, hp, hl, rfl, h.m1, h.m2⟩
theorem fin_right {w V : World} {rs : List Rm} {ns : List Nd} {A1 A2 A : Option Addr} {l : List Pc} {n : Nat} (v : Int) (c1 c2 c : Nat) (h : Fin w rs ns A1 A2 A l n V) (V' : World) (hb : Below V.heap.size V V') : Calls Try.prog 30 #[.slice A1 rs.length c1, .slice A2 ns.length c2, .int .i64 v, .slice A n c] V' fun e w' => e = .returned (.bool (rgt rs ns v l)) ∧ Below V'.heap.size V' w' := by
  have := right_any rs ns v l A1 A2 A c1 c2 c V' h.m1 h.m2 h.ln (h.r1.old hb) (h.r2.old hb) (h.li.old hb) h.pc
  rwa [h.n] at this
theorem fin_rright {w V : World} {rs : List Rm} {ns : List Nd} {A1 A2 A : Option Addr} {l : List Pc} {n : Nat} (v : Int) (c1 c2 c : Nat) (h : Fin w rs ns A1 A2 A l n V) (V' : World) (hb : Below V.heap.size V V') : Calls Try.prog 31 #[.slice A1 rs.length c1, .slice A2 ns.length c2, .int .i64 v, .slice A n c] V' fun e w' => e = .returned (.bool (rgt rs ns v l)) ∧ Below V'.heap.size V' w' := by
  have := rright_any rs ns v l A1 A2 A c1 c2 c V' h.m1 h.m2 h.ln (h.r1.old hb) (h.r2.old hb) (h.li.old hb)
  rwa [h.n] at this
theorem asg_pci (rs : List Rm) (ns : List Nd) (v : Int) (q : List Int) : (∀ p, p ∈ (asg rs ns v q).1 → PcI p) ∧ (asg rs ns v q).1.length ≤ ns.length := by
  by_cases h : asg rs ns v q = (asl rs ns v q ns.length, 0)
  · have h2 := asl_I h
    rw [h]
    exact ⟨h2, by rw [asl_len]; exact Nat.le_refl _⟩
  · have h0 : (asg rs ns v q).1 = [] := by
      unfold asg at h ⊢
      split
      · rfl
      · rename_i h1
        rw [if_neg h1] at h
        split
        · rfl
        · rename_i h2
          rw [if_neg h2] at h
          split
          · rfl
          · rename_i h3
            rw [if_neg h3] at h
            split
            · rfl
            · rename_i h4
              rw [if_neg h4] at h
              split
              · rfl
              · rename_i h5
                rw [if_neg h5] at h
                exact absurd rfl h
    rw [h0]
    exact ⟨fun p hp => absurd hp (by simp), Nat.zero_le _⟩
theorem ge_mem {l : List Pc} {i : Nat} (h : i < l.length) : ge l i ∈ l := List.mem_of_getElem? (ge_lt l i h)
end Go.Proofs.Ytcidpgjeddogmaa.Pl
