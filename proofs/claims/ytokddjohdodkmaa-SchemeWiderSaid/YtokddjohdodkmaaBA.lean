/- Plain mathematics: the marks of Closed with any permitted marks for open parts; totals are from 0 to the maximum. No program in sight. -/
import Derived.Test.YtokddjohdodkmaaHX
namespace Go.Proofs.Ytokddjohdodkmaa.Tm
open Go.RowKit Go.Proofs.Ytokddjohdodkmaa.Mw
set_option linter.unusedVariables false
set_option linter.unusedSimpArgs false

/-- After j rounds every mark is permitted, or that of an open part that is still to be marked. -/
def BI (p : Pa) (ms : List Int) (j : Nat) : Prop := ms.length = p.l.length ∧ ∀ i, i < p.l.length → (gi ms i = -2 ∧ j ≤ i ∧ ¬ (gp p.l i).k = 2) ∨ perm (gp p.l i) (gi ms i) = true
theorem bi_0 {p : Pa} {s : Sc} {an : List Int} (h : SOk p s) : BI p (mks p s an p.l.length) 0 := by
  refine ⟨mks_len _ _ _ _, fun i hi => ?_⟩
  rw [mks_at _ _ _ _ i hi]
  have hv := (vp_iff _).1 (h.part i hi)
  unfold mk1
  by_cases hk : (gp p.l i).k = 1
  · rw [if_pos hk]; exact .inl ⟨rfl, by omega, by omega⟩
  · have hk2 : (gp p.l i).k = 2 := by omega
    right
    rw [if_neg hk, perm_2 hk2]
    apply decide_eq_true
    split
    · omega
    · split
      · omega
      · omega
theorem bi_at {p : Pa} {s : Sc} {ms : List Int} {j : Nat} (h : SOk p s) (hb : BI p ms j) (hj : j < p.l.length) (h2 : gi ms j = -2) : ¬ (gp p.l j).k = 2 := by
  rcases hb.2 j hj with h3 | h3
  · exact h3.2.2
  · have := perm_bd (h.part j hj) h3; omega
theorem bi_set {p : Pa} {s : Sc} {ms : List Int} {j : Nat} {v : Int} (h : SOk p s) (hb : BI p ms j) (hj : j < p.l.length) (h2 : gi ms j = -2) (h3 : -1 ≤ v) (h4 : v ≤ (gp p.l j).m) : BI p (ms.set j v) (j + 1) ∧ perm (gp p.l j) (gi (ms.set j v) j) = true := by
  have hk := bi_at h hb hj h2
  have hj' : j < ms.length := by rw [hb.1]; exact hj
  have hp : perm (gp p.l j) v = true := by rw [perm_1 hk]; exact decide_eq_true ⟨h3, h4⟩
  refine ⟨⟨by rw [List.length_set]; exact hb.1, fun i hi => ?_⟩, by rw [gi_set hj', if_pos rfl]; exact hp⟩
  rw [gi_set hj']
  by_cases e : i = j
  · subst e; rw [if_pos rfl]; exact .inr hp
  · rw [if_neg e]
    rcases hb.2 i hi with h5 | h5
    · exact .inl ⟨h5.1, by omega, h5.2.2⟩
    · exact .inr h5
theorem bi_keep {p : Pa} {ms : List Int} {j : Nat} (hb : BI p ms j) (hj : j < p.l.length) (h2 : ¬ gi ms j = -2) : BI p ms (j + 1) ∧ perm (gp p.l j) (gi ms j) = true := by
  refine ⟨⟨hb.1, fun i hi => ?_⟩, ?_⟩
  · rcases hb.2 i hi with h5 | h5
    · by_cases e : i = j
      · subst e; exact absurd h5.1 h2
      · exact .inl ⟨h5.1, by omega, h5.2.2⟩
    · exact .inr h5
  · rcases hb.2 j hj with h5 | h5
    · exact absurd h5.1 h2
    · exact h5
theorem bi_end {p : Pa} {s : Sc} {ms : List Int} (h : SOk p s) (hb : BI p ms p.l.length) : mrk p s ms = true ∧ ∃ a c : Int, ttl p s ms = (a, 0) ∧ mxm p s = (c, 0) ∧ 0 ≤ a ∧ a ≤ c ∧ a ≤ 1000 ∧ c ≤ 1000 := by
  have hm : mrk p s ms = true := mrk_yes h.val hb.1 fun i hi => mr_yes2 (by
    rcases hb.2 i hi with h5 | h5
    · omega
    · exact h5)
  have b := tsum_bd hm p.l.length (Nat.le_refl _)
  have hlen := h.len
  exact ⟨hm, _, _, ttl_0 hm, if_pos h.val, by omega, by omega, by omega, by omega⟩
theorem permS_yes {p : Pa} {s : Sc} {i : Nat} {m : Int} (h : SOk p s) (hi : i < p.l.length) (hm : perm (gp p.l i) m = true) : permS p s (i : Int) m = true := by rw [permS_y h.val hi]; exact hm
theorem clo_ok {p : Pa} {s : Sc} {an : List Int} (h : SOk p s) (hl : an.length = p.l.length) (hg : ∀ i, i < p.l.length → PG p.l i (gi an i)) : clo p s an = (mks p s an p.l.length, 0) :=
  clo_0 h.val hl fun i hi => hg i hi (h.part i hi)
theorem fr_set {w : World} {p : Addr} {v : Value} {a : Addr} (h : w.frozen? a = false) : (w.setCell p v).frozen? a = false := by
  rw [World.frozen?_setCell]; exact h
end Go.Proofs.Ytokddjohdodkmaa.Tm
