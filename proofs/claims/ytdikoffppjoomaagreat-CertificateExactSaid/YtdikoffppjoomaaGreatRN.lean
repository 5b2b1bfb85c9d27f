/- The plain law of proofs of consistency. No program in sight. -/
import Derived.Test.YtdikoffppjoomaaGreatRA
namespace Go.Proofs.YtdikoffppjoomaaGreat.Tr
open Go.Proofs.YtdikoffppjoomaaGreat.Dg
set_option linter.unusedVariables false
set_option linter.unusedSimpArgs false

/-- The proof that a list begins with its first m leaves. -/
noncomputable def cons (l : List St) (m : Nat) (b : Bool) : List St :=
  if h : m = l.length ∨ l.length < 2 then (if b = true then [] else [root l])
  else if m ≤ spl l.length then cons (l.take (spl l.length)) m b ++ [root (l.drop (spl l.length))]
  else cons (l.drop (spl l.length)) (m - spl l.length) false ++ [root (l.take (spl l.length))]
termination_by l.length
decreasing_by
  all_goals
    have := spl_pos (n := l.length) (by omega)
    have := spl_lt (n := l.length) (by omega)
    simp
    omega
theorem cons_t (l : List St) (m : Nat) (h : m = l.length) : cons l m true = [] := by
  unfold cons; rw [dif_pos (.inl h), if_pos rfl]
theorem cons_f (l : List St) (m : Nat) (h : m = l.length) : cons l m false = [root l] := by
  unfold cons; rw [dif_pos (.inl h), if_neg (by simp)]
theorem cons_l (l : List St) (m : Nat) (b : Bool) (h : m ≠ l.length) (h2 : 2 ≤ l.length) (hk : m ≤ spl l.length) : cons l m b = cons (l.take (spl l.length)) m b ++ [root (l.drop (spl l.length))] := by
  conv => lhs; unfold cons
  rw [dif_neg (by omega), if_pos hk]
theorem cons_r (l : List St) (m : Nat) (b : Bool) (h : m ≠ l.length) (h2 : 2 ≤ l.length) (hk : ¬ m ≤ spl l.length) : cons l m b = cons (l.drop (spl l.length)) (m - spl l.length) false ++ [root (l.take (spl l.length))] := by
  conv => lhs; unfold cons
  rw [dif_neg (by omega), if_neg hk]
/-- The roots that a proof leads to. -/
noncomputable def rts (m n : Nat) (b : Bool) (old : St) (p : List St) : St × St × Bool :=
  if m = n then (if b = true then (old, old, p.length == 0) else if p.length = 1 then (gd p 0, gd p 0, true) else ((0, 0, 0, 0), (0, 0, 0, 0), false))
  else if h : p.length = 0 then ((0, 0, 0, 0), (0, 0, 0, 0), false)
  else if m ≤ spl n then ((rts m (spl n) b old (ini p)).1, jn (rts m (spl n) b old (ini p)).2.1 (lst p), (rts m (spl n) b old (ini p)).2.2)
  else (jn (lst p) (rts (m - spl n) (n - spl n) false old (ini p)).1, jn (lst p) (rts (m - spl n) (n - spl n) false old (ini p)).2.1, (rts (m - spl n) (n - spl n) false old (ini p)).2.2)
termination_by p.length
decreasing_by
  all_goals
    rw [ini_len]
    omega
theorem rts_t (m n : Nat) (old : St) (p : List St) (h : m = n) : rts m n true old p = (old, old, p.length == 0) := by
  unfold rts; rw [if_pos h, if_pos rfl]
theorem rts_f1 (m n : Nat) (old : St) (p : List St) (h : m = n) (hp : p.length = 1) : rts m n false old p = (gd p 0, gd p 0, true) := by
  unfold rts; rw [if_pos h, if_neg (by simp), if_pos hp]
theorem rts_f0 (m n : Nat) (old : St) (p : List St) (h : m = n) (hp : p.length ≠ 1) : rts m n false old p = ((0, 0, 0, 0), (0, 0, 0, 0), false) := by
  unfold rts; rw [if_pos h, if_neg (by simp), if_neg hp]
theorem rts_0 (m n : Nat) (b : Bool) (old : St) (p : List St) (h : m ≠ n) (hp : p.length = 0) : rts m n b old p = ((0, 0, 0, 0), (0, 0, 0, 0), false) := by
  unfold rts; rw [if_neg h, dif_pos hp]
theorem rts_l (m n : Nat) (b : Bool) (old : St) (p : List St) (h : m ≠ n) (hp : p.length ≠ 0) (hk : m ≤ spl n) : rts m n b old p = ((rts m (spl n) b old (ini p)).1, jn (rts m (spl n) b old (ini p)).2.1 (lst p), (rts m (spl n) b old (ini p)).2.2) := by
  conv => lhs; unfold rts
  rw [if_neg h, dif_neg hp, if_pos hk]
theorem rts_r (m n : Nat) (b : Bool) (old : St) (p : List St) (h : m ≠ n) (hp : p.length ≠ 0) (hk : ¬ m ≤ spl n) : rts m n b old p = (jn (lst p) (rts (m - spl n) (n - spl n) false old (ini p)).1, jn (lst p) (rts (m - spl n) (n - spl n) false old (ini p)).2.1, (rts (m - spl n) (n - spl n) false old (ini p)).2.2) := by
  conv => lhs; unfold rts
  rw [if_neg h, dif_neg hp, if_neg hk]
/-- The beginning of a list that is longer than the first part. -/
theorem root_begin (l : List St) (m : Nat) (h2 : 2 ≤ l.length) (hk : spl l.length < m) (hm : m ≤ l.length) : root (l.take m) = jn (root (l.take (spl l.length))) (root ((l.drop (spl l.length)).take (m - spl l.length))) := by
  have h4 := spl_pos h2
  have h5 := spl_ge h2
  have hl : (l.take m).length = m := by simp; omega
  have hs : spl m = spl l.length := by
    have e := spl_eq h2
    rw [e] at hk h5 ⊢
    exact spl_unique (by omega) hk (by omega)
  have hr := root_2 (l.take m) (by omega)
  rw [hl, hs] at hr
  rw [hr, List.take_take, Nat.min_eq_left (by omega), List.drop_take]
/-- The proof leads to both roots. -/
theorem rts_cons : ∀ (f : Nat) (l : List St) (m : Nat) (b : Bool) (old : St), l.length ≤ f → 1 ≤ m → m ≤ l.length → (b = true → old = root (l.take m)) → rts m l.length b old (cons l m b) = (root (l.take m), root l, true) := by
  intro f
  induction f with
  | zero => intro l m b old h0 h1 h2; omega
  | succ f ih =>
    intro l m b old hf h1 hm hb
    by_cases he : m = l.length
    · have ht : l.take m = l := by rw [he]; simp
      cases b with
      | true => rw [cons_t l m he, rts_t _ _ _ _ he, hb rfl, ht]; rfl
      | false => rw [cons_f l m he, rts_f1 _ _ _ _ he rfl, ht]; rfl
    · have h4 := spl_pos (n := l.length) (by omega)
      have h5 := spl_lt (n := l.length) (by omega)
      have hr := root_2 l (by omega)
      by_cases hk : m ≤ spl l.length
      · rw [cons_l l m b he (by omega) hk, rts_l _ _ _ _ _ he (by simp) hk, ini_snoc, lst_snoc]
        have hl : (l.take (spl l.length)).length = spl l.length := by simp; omega
        have ht : (l.take (spl l.length)).take m = l.take m := by rw [List.take_take, Nat.min_eq_left hk]
        have h6 := ih (l.take (spl l.length)) m b old (by omega) h1 (by omega) (by rw [ht]; exact hb)
        rw [hl, ht] at h6
        rw [h6, ← hr]
      · rw [cons_r l m b he (by omega) hk, rts_r _ _ _ _ _ he (by simp) hk, ini_snoc, lst_snoc]
        have hl : (l.drop (spl l.length)).length = l.length - spl l.length := by simp
        have h6 := ih (l.drop (spl l.length)) (m - spl l.length) false old (by omega) (by omega) (by omega) (fun h => by cases h)
        rw [hl] at h6
        rw [h6, ← hr, root_begin l m (by omega) (by omega) hm]
/-- Proofs that are as long as they should be are equally long. -/
theorem rts_len : ∀ (f : Nat) (m n : Nat) (b : Bool) (old old' : St) (p q : List St), p.length ≤ f → (rts m n b old p).2.2 = true → (rts m n b old' q).2.2 = true → p.length = q.length := by
  intro f
  induction f with
  | zero =>
    intro m n b old old' p q hf h1 h2
    by_cases he : m = n
    · cases b with
      | true => rw [rts_t _ _ _ _ he] at h1 h2; simp at h1 h2; simp [h1, h2]
      | false =>
        by_cases hp : p.length = 1
        · omega
        · rw [rts_f0 _ _ _ _ he hp] at h1; cases h1
    · rw [rts_0 _ _ _ _ _ he (by omega)] at h1; cases h1
  | succ f ih =>
    intro m n b old old' p q hf h1 h2
    by_cases he : m = n
    · cases b with
      | true => rw [rts_t _ _ _ _ he] at h1 h2; simp at h1 h2; simp [h1, h2]
      | false =>
        by_cases hp : p.length = 1
        · by_cases hq : q.length = 1
          · omega
          · rw [rts_f0 _ _ _ _ he hq] at h2; cases h2
        · rw [rts_f0 _ _ _ _ he hp] at h1; cases h1
    · by_cases hp : p.length = 0
      · rw [rts_0 _ _ _ _ _ he hp] at h1; cases h1
      by_cases hq : q.length = 0
      · rw [rts_0 _ _ _ _ _ he hq] at h2; cases h2
      by_cases hk : m ≤ spl n
      · rw [rts_l _ _ _ _ _ he hp hk] at h1
        rw [rts_l _ _ _ _ _ he hq hk] at h2
        have := ih _ _ _ _ _ (ini p) (ini q) (by rw [ini_len]; omega) h1 h2
        rw [ini_len, ini_len] at this
        omega
      · rw [rts_r _ _ _ _ _ he hp hk] at h1
        rw [rts_r _ _ _ _ _ he hq hk] at h2
        have := ih _ _ _ _ _ (ini p) (ini q) (by rw [ini_len]; omega) h1 h2
        rw [ini_len, ini_len] at this
        omega
/-- A proof is short. -/
theorem cons_len : ∀ (e : Nat) (l : List St) (m : Nat) (b : Bool), l.length ≤ 2 ^ e → (cons l m b).length ≤ e + 1 := by
  intro e
  induction e with
  | zero =>
    intro l m b h
    unfold cons
    rw [dif_pos (.inr (by simp at h; omega))]
    cases b <;> simp
  | succ e ih =>
    intro l m b h
    by_cases hd : m = l.length ∨ l.length < 2
    · unfold cons
      rw [dif_pos hd]
      cases b <;> simp
    · have h4 := spl_pos (n := l.length) (by omega)
      have h5 := spl_lt (n := l.length) (by omega)
      have h6 := spl_ge (n := l.length) (by omega)
      have h7 : spl l.length ≤ 2 ^ e := by
        rw [spl_eq (by omega)] at h5 ⊢
        refine Nat.pow_le_pow_right (by omega) ?_
        have h8 : 2 ^ (Nat.log2 (l.length - 1)) < 2 ^ (e + 1) := by omega
        have := (Nat.pow_lt_pow_iff_right (by omega : 1 < 2)).1 h8
        omega
      have h9 : 2 ^ (e + 1) = 2 * 2 ^ e := by rw [Nat.pow_succ]; omega
      by_cases hk : m ≤ spl l.length
      · rw [cons_l l m b (by omega) (by omega) hk, List.length_append]
        have := ih (l.take (spl l.length)) m b (by simp; omega)
        simp at this ⊢
        omega
      · rw [cons_r l m b (by omega) (by omega) hk, List.length_append]
        have := ih (l.drop (spl l.length)) (m - spl l.length) false (by simp; omega)
        simp at this ⊢
        omega
end Go.Proofs.YtdikoffppjoomaaGreat.Tr
