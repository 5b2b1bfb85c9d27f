/- Memory: a field of a place in a list is stored. -/
import Derived.Test.YtcidpgjeddogmaaWW
import Derived.WalkKit
import Derived.WalkSpells
import Derived.WalkLawsBesides
import Derived.Deep.QuietTactic
import Derived.BigQuiet
import Derived.Deep.Draws
import Derived.Deep.AppendLies
import Derived.Laws.OwnMore
import Derived.Laws.BytesArg
import Derived.Lib.Hide
import Derived.Deep.LoopGhost
namespace Go.Proofs.Ytcidpgjeddogmaa.Pl
open Go.RowKit
open Go.Proofs.Ytcidpgjeddogmaa.Mw
open Go.Proofs.Ytcidpgjeddogmaa.St
set_option linter.unusedVariables false
set_option linter.unusedSimpArgs false

theorem ge_set_eq {l : List Pc} {i : Nat} (h : i < l.length) (p : Pc) : ge (l.set i p) i = p := by
  unfold ge; rw [List.getD_eq_getElem?_getD, List.getElem?_set_self h]; rfl
theorem ge_set_ne {l : List Pc} {i x : Nat} (h : i ≠ x) (p : Pc) : ge (l.set i p) x = ge l x := by
  unfold ge; rw [List.getD_eq_getElem?_getD, List.getD_eq_getElem?_getD, List.getElem?_set_ne h]
/-- Storing field j of place i. -/
theorem rdp_set {w : World} {b off : Nat} {l : List Pc} (h : RdR 5 pcl w (some ⟨b, off, none⟩) l) {i : Nat} (hi : i < l.length) {j : Nat} (hj : j < 5) (u : Value) (p' : Pc) (hp : pcl p' = (pcl (ge l i)).set j u) : RdR 5 pcl (w.setCell ⟨b, off + i * 5 + j, none⟩ u) (some ⟨b, off, none⟩) (l.set i p') := by
  intro x hx
  rw [List.length_set] at hx
  obtain ⟨b', off', e, hlt, hc⟩ := h x hx
  cases e
  refine ⟨b, off, rfl, by simpa using hlt, fun y hy => ?_⟩
  by_cases hxi : x = i
  · subst hxi
    rw [ge_set_eq hx, hp]
    by_cases hyj : y = j
    · subst hyj
      have h0 := hc y hy
      have hl : y < (pcl (ge l x)).length := by rw [pcl_len]; exact hy
      rw [List.getElem?_eq_getElem hl] at h0
      rw [World.cell?_setCell_same w _ u h0, List.getElem?_set_self hl]
    · rw [World.cell?_setCell_other w _ _ u (fun e => hyj (by injection e with _ e2 _; omega)), hc y hy, List.getElem?_set_ne (fun e => hyj e.symm)]
  · rw [ge_set_ne (fun e => hxi e.symm), World.cell?_setCell_other w _ _ u (fun e => hxi (by injection e with _ e2 _; omega))]
    exact hc y hy
/-- The two numbers that are no part of a place's seat. -/
theorem rdp_c {w : World} {b off : Nat} {l : List Pc} (h : RdR 5 pcl w (some ⟨b, off, none⟩) l) {i : Nat} (hi : i < l.length) (x : Int) : RdR 5 pcl (w.setCell ⟨b, off + i * 5, none⟩ (.int .i64 x)) (some ⟨b, off, none⟩) (l.set i { ge l i with c := x }) :=
  rdp_set (j := 0) h hi (by omega) _ _ rfl
theorem rdp_v {w : World} {b off : Nat} {l : List Pc} (h : RdR 5 pcl w (some ⟨b, off, none⟩) l) {i : Nat} (hi : i < l.length) (x : Int) : RdR 5 pcl (w.setCell ⟨b, off + i * 5 + 4, none⟩ (.int .i64 x)) (some ⟨b, off, none⟩) (l.set i { ge l i with v := x }) :=
  rdp_set (j := 4) h hi (by omega) _ _ rfl
/-- A seat is stored whole. -/
theorem rdp_s {w : World} {b off : Nat} {l : List Pc} (h : RdR 5 pcl w (some ⟨b, off, none⟩) l) {i : Nat} (hi : i < l.length) (m r c : Int) : RdR 5 pcl (((w.setCell ⟨b, off + i * 5 + 1, none⟩ (.int .i64 m)).setCell ⟨b, off + i * 5 + 2, none⟩ (.int .i64 r)).setCell ⟨b, off + i * 5 + 3, none⟩ (.int .i64 c)) (some ⟨b, off, none⟩) (l.set i { ge l i with m := m, r := r, l := c }) := by
  have h1 := rdp_set (j := 1) h hi (by omega) (.int .i64 m) { ge l i with m := m } rfl
  have hi1 : i < (l.set i { ge l i with m := m }).length := by rw [List.length_set]; exact hi
  have h2 := rdp_set (j := 2) h1 hi1 (by omega) (.int .i64 r) { ge l i with m := m, r := r } (by rw [ge_set_eq hi]; rfl)
  rw [List.set_set] at h2
  have hi2 : i < (l.set i { ge l i with m := m, r := r }).length := by rw [List.length_set]; exact hi
  have h3 := rdp_set (j := 3) h2 hi2 (by omega) (.int .i64 c) { ge l i with m := m, r := r, l := c } (by rw [ge_set_eq hi]; rfl)
  rw [List.set_set] at h3
  exact h3
/-- Every place of an edited list holds numbers of 64 bits. -/
theorem pci_set {l : List Pc} (h : ∀ p, p ∈ l → PcI p) (i : Nat) {p : Pc} (hp : PcI p) : ∀ q, q ∈ l.set i p → PcI q := fun q hq => by
  rcases List.mem_or_eq_of_mem_set hq with hq | rfl
  · exact h q hq
  · exact hp
end Go.Proofs.Ytcidpgjeddogmaa.Pl
