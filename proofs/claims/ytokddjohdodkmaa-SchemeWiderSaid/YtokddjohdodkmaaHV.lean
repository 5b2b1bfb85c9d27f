/- Plain mathematics: totals and maxima of schemes that differ in one withdrawal. No program in sight. -/
import Derived.Test.YtokddjohdodkmaaHK
namespace Go.Proofs.Ytokddjohdodkmaa.Tm
open Go.RowKit Go.Proofs.Ytokddjohdodkmaa.Mw
set_option linter.unusedVariables false
set_option linter.unusedSimpArgs false

theorem tsum_set {p : Pa} {s s' : Sc} {ms : List Int} {j : Nat} (h : ∀ i, i ≠ j → gi s'.wd i = gi s.wd i) : ∀ k, tsum p s' ms k = tsum p s ms k + if j < k then tv (gp p.l j) (gi s'.wd j) (gi ms j) - tv (gp p.l j) (gi s.wd j) (gi ms j) else 0
  | 0 => by simp [tsum]
  | k + 1 => by
    unfold tsum
    rw [tsum_set h k]
    by_cases e : k = j
    · subst e
      rw [if_neg (by omega), if_pos (by omega)]; omega
    · rw [h k e]
      by_cases hlt : j < k
      · rw [if_pos hlt, if_pos (by omega)]; omega
      · rw [if_neg hlt, if_neg (by omega)]; omega
theorem msum_set {p : Pa} {s s' : Sc} {j : Nat} (h : ∀ i, i ≠ j → gi s'.wd i = gi s.wd i) : ∀ k, msum p s' k = msum p s k + if j < k then mv (gp p.l j) (gi s'.wd j) - mv (gp p.l j) (gi s.wd j) else 0
  | 0 => by simp [msum]
  | k + 1 => by
    unfold msum
    rw [msum_set h k]
    by_cases e : k = j
    · subst e
      rw [if_neg (by omega), if_pos (by omega)]; omega
    · rw [h k e]
      by_cases hlt : j < k
      · rw [if_pos hlt, if_pos (by omega)]; omega
      · rw [if_neg hlt, if_neg (by omega)]; omega
theorem gi_set {l : List Int} {j : Nat} {v : Int} (hj : j < l.length) (i : Nat) : gi (l.set j v) i = if i = j then v else gi l i := by
  unfold gi
  rw [List.getD_eq_getElem?_getD, List.getD_eq_getElem?_getD, List.getElem?_set]
  by_cases e : i = j
  · subst e; rw [if_pos rfl, if_pos rfl, if_pos hj]; rfl
  · rw [if_neg (fun e' => e e'.symm), if_neg e]
end Go.Proofs.Ytokddjohdodkmaa.Tm
