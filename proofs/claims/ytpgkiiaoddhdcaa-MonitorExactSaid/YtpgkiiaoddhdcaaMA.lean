/- Plain law: rules, windows and suspensions. No program in sight. -/
import Derived.Test.YtpgkiiaoddhdcaaMB
namespace Go.Proofs.Ytpgkiiaoddhdcaa.Mo
open Go.Proofs.Ytpgkiiaoddhdcaa.Mw
set_option linter.unusedVariables false

structure Rl where
  p : Int
  t : Int
  w : Int
  f : Int
/-- A rule that is right. -/
def chk (r : Rl) : Bool := decide (0 ≤ r.p ∧ r.p ≤ 200 ∧ 0 ≤ r.t ∧ r.t ≤ 200 ∧ 1 ≤ r.w ∧ r.w ≤ 20 ∧ 1 ≤ r.f ∧ r.f ≤ r.w)
/-- How many of n values from lo on are false. -/
def cf (f : Nat → Bool) (lo : Nat) : Nat → Nat
  | 0 => 0
  | n + 1 => cf f lo n + if f (lo + n) = true then 0 else 1
theorem cf_le (f : Nat → Bool) (lo : Nat) : ∀ n, cf f lo n ≤ n
  | 0 => by simp [cf]
  | n + 1 => by have := cf_le f lo n; unfold cf; split <;> omega
theorem cf_congr (f g : Nat → Bool) (lo lo' : Nat) : ∀ n, (∀ j, j < n → f (lo + j) = g (lo' + j)) → cf f lo n = cf g lo' n
  | 0, _ => rfl
  | n + 1, h => by unfold cf; rw [cf_congr f g lo lo' n (fun j hj => h j (by omega)), h n (by omega)]
theorem cf_mono (f g : Nat → Bool) (lo : Nat) : ∀ n, (∀ j, j < n → f (lo + j) = true → g (lo + j) = true) → cf g lo n ≤ cf f lo n
  | 0, _ => by simp [cf]
  | n + 1, h => by
    have := cf_mono f g lo n (fun j hj => h j (by omega))
    have h1 := h n (by omega)
    unfold cf
    by_cases a : f (lo + n) = true
    · rw [if_pos a, if_pos (h1 a)]; omega
    · rw [if_neg a]; split <;> omega
theorem cf_first (f : Nat → Bool) (lo : Nat) : ∀ n, cf f lo (n + 1) = (if f lo = true then 0 else 1) + cf f (lo + 1) n
  | 0 => by simp [cf]
  | n + 1 => by
    have ih := cf_first f lo n
    have e1 : cf f lo (n + 1 + 1) = cf f lo (n + 1) + if f (lo + (n + 1)) = true then 0 else 1 := rfl
    have e2 : cf f (lo + 1) (n + 1) = cf f (lo + 1) n + if f (lo + 1 + n) = true then 0 else 1 := rfl
    rw [e1, e2, ih, show lo + 1 + n = lo + (n + 1) by omega]
    omega
/-- How many are false. -/
def cnt (l : List Bool) : Nat := cf (bi l) 0 l.length
theorem cnt_le (l : List Bool) : cnt l ≤ l.length := cf_le _ _ _
/-- Enough are false. -/
def fl (r : Rl) (l : List Bool) : Bool := decide (r.f ≤ (cnt l : Int))
/-- A valid watch. -/
def vld (r : Rl) (l : List Bool) (s : Bool) : Bool := chk r && decide ((l.length : Int) ≤ r.w) && (s == fl r l)
/-- The judgements after one more. -/
def nx (W : Nat) (l : List Bool) (g : Bool) : List Bool := (l ++ [g]).drop (l.length + 1 - W)
/-- The last W of the first i judgements. -/
def pr (W : Nat) (l : List Bool) (i : Nat) : List Bool := (l.take i).drop (i - W)
theorem pr_len (W : Nat) (l : List Bool) (i : Nat) (h : i ≤ l.length) : (pr W l i).length = min i W := by
  unfold pr; simp; omega
theorem pr_at (W : Nat) (l : List Bool) (i j : Nat) (h : i ≤ l.length) (hj : j < min i W) : bi (pr W l i) j = bi l (i - W + j) := by
  unfold pr; rw [bi_drop, bi_take _ _ _ (by omega)]
theorem pr_zero (W : Nat) (l : List Bool) : pr W l 0 = [] := by simp [pr]
theorem take_snoc (l : List Bool) (i : Nat) (h : i < l.length) : l.take (i + 1) = l.take i ++ [bi l i] := by
  have := bi_lt l i h
  rw [List.take_add_one, this]
  rfl
theorem pr_step (W : Nat) (l : List Bool) (i : Nat) (h : i < l.length) : nx W (pr W l i) (bi l i) = pr W l (i + 1) := by
  have hl := pr_len W l i (by omega)
  unfold nx
  rw [hl]
  unfold pr
  rw [take_snoc l i h, ← List.drop_append_of_le_length (by simp; omega), List.drop_drop]
  congr 1
  omega
theorem cnt_pr (W : Nat) (l : List Bool) (i : Nat) (h : i ≤ l.length) : cnt (pr W l i) = cf (bi l) (i - W) (min i W) := by
  unfold cnt
  rw [pr_len W l i h]
  exact cf_congr _ _ _ _ _ (fun j hj => by rw [Nat.zero_add, pr_at W l i j h hj])
theorem nx_len (W : Nat) (l : List Bool) (g : Bool) (hW : 1 ≤ W) (h : l.length ≤ W) : (nx W l g).length = min W (l.length + 1) := by
  unfold nx; simp; omega
theorem nx_last (W : Nat) (l : List Bool) (g : Bool) (hW : 1 ≤ W) (h : l.length ≤ W) : bi (nx W l g) ((nx W l g).length - 1) = g := by
  rw [nx_len W l g hW h]
  unfold nx
  rw [bi_drop, show l.length + 1 - W + (min W (l.length + 1) - 1) = l.length by omega, bi_snoc]
/-- Suspended at judgement i. -/
def sus (r : Rl) (l : List Bool) (i : Nat) : Bool := fl r (pr r.w.toNat l (i + 1))
open Classical in
/-- The first suspension. -/
noncomputable def runS (r : Rl) (l : List Bool) : Int := if h : ∃ i, i < l.length ∧ sus r l i = true ∧ ∀ j, j < i → sus r l j = false then ((Classical.choose h : Nat) : Int) else -1
theorem runS_at (r : Rl) (l : List Bool) (i : Nat) (h1 : i < l.length) (h2 : sus r l i = true) (h3 : ∀ j, j < i → sus r l j = false) : runS r l = i := by
  have h : ∃ i, i < l.length ∧ sus r l i = true ∧ ∀ j, j < i → sus r l j = false := ⟨i, h1, h2, h3⟩
  unfold runS
  rw [dif_pos h]
  obtain ⟨a1, a2, a3⟩ := Classical.choose_spec h
  congr 1
  rcases Nat.lt_trichotomy (Classical.choose h) i with hc | hc | hc
  · rw [h3 _ hc] at a2; cases a2
  · exact hc
  · rw [a3 _ hc] at h2; cases h2
theorem runS_none (r : Rl) (l : List Bool) (h : ∀ j, j < l.length → sus r l j = false) : runS r l = -1 := by
  unfold runS
  rw [dif_neg]
  rintro ⟨i, h1, h2, _⟩
  rw [h i h1] at h2; cases h2
/-- There is a first one, if there is one at all. -/
theorem least (p : Nat → Bool) : ∀ n, (∀ j, j < n → p j = false) ∨ ∃ i, i < n ∧ p i = true ∧ ∀ j, j < i → p j = false
  | 0 => .inl (fun j hj => by omega)
  | n + 1 => by
    rcases least p n with h | ⟨i, h1, h2, h3⟩
    · cases hp : p n
      · exact .inl (fun j hj => by
          by_cases e : j = n
          · subst e; exact hp
          · exact h j (by omega))
      · exact .inr ⟨n, by omega, hp, h⟩
    · exact .inr ⟨i, by omega, h2, h3⟩
theorem runS_cases (r : Rl) (l : List Bool) : (runS r l = -1 ∧ ∀ j, j < l.length → sus r l j = false) ∨ ∃ i : Nat, runS r l = i ∧ i < l.length ∧ sus r l i = true ∧ ∀ j, j < i → sus r l j = false := by
  rcases least (sus r l) l.length with h | ⟨i, h1, h2, h3⟩
  · exact .inl ⟨runS_none r l h, h⟩
  · exact .inr ⟨i, runS_at r l i h1 h2 h3, h1, h2, h3⟩
/-- The last true one before n. -/
def lt0 (l : List Bool) : Nat → Int
  | 0 => -1
  | n + 1 => if bi l n = true then (n : Int) else lt0 l n
theorem lt0_bd (l : List Bool) : ∀ n, -1 ≤ lt0 l n ∧ lt0 l n < n
  | 0 => by simp [lt0]
  | n + 1 => by have := lt0_bd l n; unfold lt0; split <;> omega
/-- Where a run ends. -/
noncomputable def endR (r : Rl) (l : List Bool) : Nat := if runS r l = -1 then l.length else (runS r l).toNat
noncomputable def runG (r : Rl) (l : List Bool) : Int := lt0 l (endR r l)
theorem endR_at (r : Rl) (l : List Bool) (i : Nat) (h : runS r l = i) : endR r l = i := by
  unfold endR; rw [h, if_neg (by omega)]; simp
theorem endR_none (r : Rl) (l : List Bool) (h : runS r l = -1) : endR r l = l.length := by unfold endR; rw [if_pos h]
theorem cnt_nil : cnt [] = 0 := rfl
theorem chk_bd {r : Rl} (h : chk r = true) : 0 ≤ r.p ∧ r.p ≤ 200 ∧ 0 ≤ r.t ∧ r.t ≤ 200 ∧ 1 ≤ r.w ∧ r.w ≤ 20 ∧ 1 ≤ r.f ∧ r.f ≤ r.w := of_decide_eq_true h
/-- Before judgement i nothing is suspended. -/
theorem pre_fl (r : Rl) (l : List Bool) (i : Nat) (hr : chk r = true) (h : ∀ j, j < i → sus r l j = false) : fl r (pr r.w.toNat l i) = false := by
  have := chk_bd hr
  cases i with
  | zero => rw [pr_zero]; exact decide_eq_false (by rw [cnt_nil]; omega)
  | succ i => exact h i (by omega)
theorem pre_vld (r : Rl) (l : List Bool) (i : Nat) (hr : chk r = true) (hi : i ≤ l.length) (h : ∀ j, j < i → sus r l j = false) : vld r (pr r.w.toNat l i) false = true := by
  unfold vld
  have h1 := chk_bd hr
  have h2 := pr_len r.w.toNat l i hi
  rw [hr, pre_fl r l i hr h, decide_eq_true (by rw [h2]; omega)]
  rfl
/-- The first suspension is at a judgement that is not good. -/
theorem sus_bad (r : Rl) (l : List Bool) (i : Nat) (hr : chk r = true) (hi : i < l.length) (h : sus r l i = true) (h' : ∀ j, j < i → sus r l j = false) : bi l i = false := by
  have hb := chk_bd hr
  cases hg : bi l i
  · rfl
  exfalso
  have hp := pre_fl r l i hr h'
  have h1 : r.f ≤ (cnt (pr r.w.toNat l (i + 1)) : Int) := of_decide_eq_true h
  have h2 : ¬ r.f ≤ (cnt (pr r.w.toNat l i) : Int) := of_decide_eq_false hp
  rw [cnt_pr _ _ _ (by omega)] at h1 h2
  have h3 : cf (bi l) (i + 1 - r.w.toNat) (min (i + 1) r.w.toNat) ≤ cf (bi l) (i - r.w.toNat) (min i r.w.toNat) := by
    by_cases hc : i < r.w.toNat
    · rw [show i + 1 - r.w.toNat = 0 by omega, show i - r.w.toNat = 0 by omega, show min (i + 1) r.w.toNat = i + 1 by omega, show min i r.w.toNat = i by omega]
      show cf (bi l) 0 i + (if bi l (0 + i) = true then 0 else 1) ≤ _
      rw [Nat.zero_add, hg]; simp
    · obtain ⟨m, hm⟩ : ∃ m, r.w.toNat = m + 1 := ⟨r.w.toNat - 1, by omega⟩
      rw [show min (i + 1) r.w.toNat = m + 1 by omega, show min i r.w.toNat = m + 1 by omega]
      have e1 : cf (bi l) (i + 1 - r.w.toNat) (m + 1) = cf (bi l) (i + 1 - r.w.toNat) m + if bi l (i + 1 - r.w.toNat + m) = true then 0 else 1 := rfl
      rw [e1, show i + 1 - r.w.toNat + m = i by omega, hg, cf_first, show i - r.w.toNat + 1 = i + 1 - r.w.toNat by omega]
      simp
  omega
end Go.Proofs.Ytpgkiiaoddhdcaa.Mo
