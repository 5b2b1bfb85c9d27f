/- Walks: the statement MonitorTolerance: the lists. -/
import Derived.Test.YtpgkiiaoddhdcaaMK
import Derived.Test.YtpgkiiaoddhdcaaM2
import Derived.WalkKit
import Derived.WalkSpells
import Derived.WalkLawsBesides
import Derived.Deep.QuietTactic
import Derived.BigQuiet
import Derived.Deep.Draws
import Derived.Deep.AppendLies
import Derived.Laws.OwnMore
import Derived.Laws.BytesArg
import Derived.Lib.Hide
import Derived.Deep.LoopGhost
import Derived.Deep.RegionHeld3
import Derived.RegionTactic
import Derived.BigRegion
import Derived.Deep.RegionLaw
import Derived.Deep.DeepCutAuto
namespace Go.Proofs.Ytpgkiiaoddhdcaa.Mo
open Go.RowKit Go.Proofs.Ytpgkiiaoddhdcaa.Mw Go.Proofs.Ytpgkiiaoddhdcaa.Dc
set_option linter.unusedVariables false

theorem infoInt : (Try.prog.info? 3).map (fun i => (i.zero, i.size, i.bytes)) = some (some (.int .i64 0), 1, 8) := by kernel_rfl
/-- The first k marks. -/
def xl (a : List Int) : Nat → List Int
  | 0 => []
  | k + 1 => xl a k ++ [gi a k % 9]
theorem xl_len (a : List Int) : ∀ k, (xl a k).length = k
  | 0 => rfl
  | k + 1 => by unfold xl; simp [xl_len a k]
theorem xl_at (a : List Int) : ∀ k j, j < k → gi (xl a k) j = gi a j % 9
  | k + 1, j, h => by
    unfold xl
    by_cases e : j = k
    · subst e
      have := gi_snoc (xl a j) (gi a j % 9)
      rwa [xl_len] at this
    · rw [gi_left _ _ _ (by rw [xl_len]; omega), xl_at a k j (by omega)]
/-- The last m elements, backwards. -/
def rvl (l : List Int) : Nat → List Int
  | 0 => []
  | m + 1 => rvl l m ++ [gi l (l.length - 1 - m)]
theorem rvl_len (l : List Int) : ∀ m, (rvl l m).length = m
  | 0 => rfl
  | m + 1 => by unfold rvl; simp [rvl_len l m]
theorem rvl_at (l : List Int) : ∀ m j, j < m → gi (rvl l m) j = gi l (l.length - 1 - j)
  | m + 1, j, h => by
    unfold rvl
    by_cases e : j = m
    · subst e
      have := gi_snoc (rvl l j) (gi l (l.length - 1 - j))
      rwa [rvl_len] at this
    · rw [gi_left _ _ _ (by rw [rvl_len]; omega), rvl_at l m j (by omega)]
/-- A sum of the first k values. -/
def sf (f : Nat → Int) : Nat → Int
  | 0 => 0
  | k + 1 => sf f k + f k
theorem sf_congr (f g : Nat → Int) : ∀ k, (∀ j, j < k → f j = g j) → sf f k = sf g k
  | 0, _ => rfl
  | k + 1, h => by unfold sf; rw [sf_congr f g k (fun j hj => h j (by omega)), h k (by omega)]
theorem sf_first (f : Nat → Int) : ∀ k, sf f (k + 1) = f 0 + sf (fun j => f (j + 1)) k
  | 0 => by simp [sf]
  | k + 1 => by
    have ih := sf_first f k
    have e1 : sf f (k + 1 + 1) = sf f (k + 1) + f (k + 1) := rfl
    have e2 : sf (fun j => f (j + 1)) (k + 1) = sf (fun j => f (j + 1)) k + f (k + 1) := rfl
    rw [e1, e2, ih]; omega
theorem sf_rev (f : Nat → Int) : ∀ k, sf (fun j => f (k - 1 - j)) k = sf f k
  | 0 => rfl
  | k + 1 => by
    rw [sf_first]
    have e : sf (fun j => f (k + 1 - 1 - (j + 1))) k = sf (fun j => f (k - 1 - j)) k := sf_congr _ _ _ (fun j hj => by rw [show k + 1 - 1 - (j + 1) = k - 1 - j by omega])
    rw [e, sf_rev f k]
    show f (k + 1 - 1 - 0) + sf f k = sf f k + f k
    rw [show k + 1 - 1 - 0 = k by omega]; omega
theorem sm_sf (l : List Int) : ∀ k, sm l k = sf (fun j => mx (gi l j)) k
  | 0 => rfl
  | k + 1 => by unfold sm sf; rw [sm_sf l k]
theorem sm_rvl (l : List Int) : sm (rvl l l.length) l.length = sm l l.length := by
  rw [sm_sf, sm_sf, ← sf_rev (fun j => mx (gi l j))]
  exact sf_congr _ _ _ (fun j hj => by rw [rvl_at l _ j hj])
theorem ds_self (x : Int) : ds x x = 0 := by unfold ds; split <;> omega
theorem ds_comm (x y : Int) : ds x y = ds y x := by unfold ds; split <;> split <;> omega
theorem gd_self (r : Rl) (x : List Int) (hr : chk r = true) (hx : tg x = false) : gd r x x = true := by
  have := chk_bd hr
  rw [gd_end hr rfl hx hx (fun j _ => by rw [ds_self]; omega), ds_self]
  exact decide_eq_true (by omega)
theorem gd_iff (r : Rl) (a b : List Int) : gd r a b = true ↔ (chk r = true ∧ a.length = b.length ∧ tg a = false ∧ tg b = false ∧ (∀ j, j < a.length → ds (mx (gi a j)) (mx (gi b j)) ≤ r.p) ∧ ds (sm a a.length) (sm b b.length) ≤ r.t) := by
  unfold gd; exact decide_eq_true_iff
theorem gd_comm (r : Rl) (a b : List Int) : gd r a b = gd r b a := by
  rw [Bool.eq_iff_iff, gd_iff, gd_iff]
  constructor
  · rintro ⟨h1, h2, h3, h4, h5, h6⟩
    exact ⟨h1, h2.symm, h4, h3, fun j hj => by rw [ds_comm]; exact h5 j (by omega), by rw [ds_comm]; exact h6⟩
  · rintro ⟨h1, h2, h3, h4, h5, h6⟩
    exact ⟨h1, h2.symm, h4, h3, fun j hj => by rw [ds_comm]; exact h5 j (by omega), by rw [ds_comm]; exact h6⟩
theorem tg_rvl (x : List Int) (h : tg x = false) : tg (rvl x x.length) = false := by
  obtain ⟨h1, h2⟩ := tg_of h
  refine tg_no (by rw [rvl_len]; exact h1) (fun j hj => ?_)
  rw [rvl_len] at hj
  rw [rvl_at x _ j hj]
  exact h2 _ (by omega)
theorem gd_rev (r : Rl) (x y : List Int) (hl : x.length = y.length) (hx : tg x = false) (hy : tg y = false) : gd r x y = gd r (rvl x x.length) (rvl y y.length) := by
  have hux := tg_rvl x hx
  have huy := tg_rvl y hy
  rw [Bool.eq_iff_iff, gd_iff, gd_iff, rvl_len, rvl_len, sm_rvl, sm_rvl]
  constructor
  · rintro ⟨h1, h2, h3, h4, h5, h6⟩
    exact ⟨h1, h2, hux, huy, fun j hj => by rw [rvl_at x _ j hj, rvl_at y _ j (by omega), ← hl]; exact h5 _ (by omega), h6⟩
  · rintro ⟨h1, h2, h3, h4, h5, h6⟩
    refine ⟨h1, h2, hx, hy, fun j hj => ?_, h6⟩
    have := h5 (x.length - 1 - j) (by omega)
    rwa [rvl_at x _ _ (by omega), rvl_at y _ _ (by omega), ← hl, show x.length - 1 - (x.length - 1 - j) = j by omega] at this
theorem gd_wide (r q : Rl) (x y : List Int) (hq : chk q = true) (hp : r.p ≤ q.p) (ht : r.t ≤ q.t) (h : gd r x y = true) : gd q x y = true := by
  rw [gd_iff] at h ⊢
  obtain ⟨h1, h2, h3, h4, h5, h6⟩ := h
  exact ⟨hq, h2, h3, h4, fun j hj => by have := h5 j hj; omega, by omega⟩
theorem tg_xl (a : List Int) (h : a.length ≤ 24) : tg (xl a a.length) = false := by
  refine tg_no (by rw [xl_len]; exact h) (fun j hj => ?_)
  rw [xl_len] at hj
  rw [xl_at a _ j hj]
  omega
end Go.Proofs.Ytpgkiiaoddhdcaa.Mo
