/- Plain law: trees of digests: splits, roots, paths and proofs. No program in sight. -/
import Derived.Test.YtdikoffppjoomaaGreatGR
import Derived.Test.YtdikoffppjoomaaGreatMW
import Derived.Deep.AppendLies
namespace Go.Proofs.YtdikoffppjoomaaGreat.Tr
open Go.Proofs.YtdikoffppjoomaaGreat.Dg
set_option linter.unusedVariables false
set_option linter.unusedSimpArgs false

/-- Digest number i. -/
def gd (l : List St) (i : Nat) : St := l.getD i (0, 0, 0, 0)
theorem gd_lt (l : List St) (i : Nat) (h : i < l.length) : l[i]? = some (gd l i) := by
  unfold gd; rw [List.getD_eq_getElem?_getD, List.getElem?_eq_getElem h]; rfl
theorem gd_take (l : List St) (k i : Nat) (h : i < k) : gd (l.take k) i = gd l i := by
  unfold gd; rw [List.getD_eq_getElem?_getD, List.getD_eq_getElem?_getD, List.getElem?_take_of_lt h]
theorem gd_drop (l : List St) (k i : Nat) : gd (l.drop k) i = gd l (k + i) := by
  unfold gd; rw [List.getD_eq_getElem?_getD, List.getD_eq_getElem?_getD, List.getElem?_drop]
theorem gd_snoc (l : List St) (x : St) : gd (l ++ [x]) l.length = x := by unfold gd; simp
theorem gd_left (l m : List St) (i : Nat) (h : i < l.length) : gd (l ++ m) i = gd l i := by
  unfold gd; rw [List.getD_eq_getElem?_getD, List.getD_eq_getElem?_getD, List.getElem?_append_left h]

/-- The greatest power of two that is less than n. -/
def spl (n : Nat) : Nat := if n < 2 then 0 else 2 ^ Nat.log2 (n - 1)
theorem spl_small {n : Nat} (h : n < 2) : spl n = 0 := if_pos h
theorem spl_eq {n : Nat} (h : 2 ≤ n) : spl n = 2 ^ Nat.log2 (n - 1) := if_neg (by omega)
theorem spl_pos {n : Nat} (h : 2 ≤ n) : 1 ≤ spl n := by rw [spl_eq h]; exact Nat.pow_pos (by omega)
theorem spl_lt {n : Nat} (h : 2 ≤ n) : spl n < n := by
  rw [spl_eq h]
  have := Nat.log2_self_le (show n - 1 ≠ 0 by omega)
  omega
theorem spl_ge {n : Nat} (h : 2 ≤ n) : n ≤ 2 * spl n := by
  rw [spl_eq h]
  have := Nat.lt_log2_self (n := n - 1)
  rw [Nat.pow_succ] at this
  omega
/-- A power of two between half of n and n is the split. -/
theorem spl_unique {n j : Nat} (h : 2 ≤ n) (h1 : 2 ^ j < n) (h2 : n ≤ 2 * 2 ^ j) : spl n = 2 ^ j := by
  rw [spl_eq h]
  congr 1
  have a := Nat.log2_self_le (show n - 1 ≠ 0 by omega)
  have b := Nat.lt_log2_self (n := n - 1)
  rcases Nat.lt_trichotomy (Nat.log2 (n - 1)) j with hc | hc | hc
  · have : 2 ^ (Nat.log2 (n - 1) + 1) ≤ 2 ^ j := Nat.pow_le_pow_right (by omega) (by omega)
    omega
  · exact hc
  · have : 2 ^ (j + 1) ≤ 2 ^ Nat.log2 (n - 1) := Nat.pow_le_pow_right (by omega) (by omega)
    rw [Nat.pow_succ] at this
    omega

/-- The root of a leaf. -/
noncomputable def leaf (d : St) : St := words 0 [d.1, d.2.1, d.2.2.1, d.2.2.2]
/-- The digest of two digests. -/
noncomputable def jn (a b : St) : St := words 1 [a.1, a.2.1, a.2.2.1, a.2.2.2, b.1, b.2.1, b.2.2.1, b.2.2.2]
noncomputable def empty : St := words 2 []
noncomputable def rootF : Nat → List St → St
  | 0, l => if l.length = 0 then empty else leaf (gd l 0)
  | f + 1, l => if l.length = 0 then empty else if l.length = 1 then leaf (gd l 0) else jn (rootF f (l.take (spl l.length))) (rootF f (l.drop (spl l.length)))
theorem rootF_0 (f : Nat) (l : List St) (h : l.length = 0) : rootF f l = empty := by
  cases f <;> (unfold rootF; rw [if_pos h])
theorem rootF_1 (f : Nat) (l : List St) (h : l.length = 1) : rootF f l = leaf (gd l 0) := by
  cases f with
  | zero => unfold rootF; rw [if_neg (by omega)]
  | succ f => unfold rootF; rw [if_neg (by omega), if_pos h]
theorem rootF_eq : ∀ (f g : Nat) (l : List St), l.length ≤ f + 1 → l.length ≤ g + 1 → rootF f l = rootF g l := by
  intro f
  induction f with
  | zero =>
    intro g l h1 h2
    rcases Nat.eq_zero_or_pos l.length with h | h
    · rw [rootF_0 _ _ h, rootF_0 _ _ h]
    · rw [rootF_1 _ _ (by omega), rootF_1 _ _ (by omega)]
  | succ f ih =>
    intro g l h1 h2
    rcases Nat.eq_zero_or_pos l.length with h | h
    · rw [rootF_0 _ _ h, rootF_0 _ _ h]
    · by_cases h3 : l.length = 1
      · rw [rootF_1 _ _ h3, rootF_1 _ _ h3]
      · obtain ⟨g', rfl⟩ : ∃ g', g = g' + 1 := ⟨g - 1, by omega⟩
        have h4 := spl_pos (n := l.length) (by omega)
        have h5 := spl_lt (n := l.length) (by omega)
        unfold rootF
        rw [if_neg (by omega), if_neg h3, if_neg (by omega), if_neg h3, ih g' _ (by simp; omega) (by simp; omega), ih g' _ (by simp; omega) (by simp; omega)]
/-- The root of a list. -/
noncomputable def root (l : List St) : St := rootF l.length l
theorem root_0 (l : List St) (h : l.length = 0) : root l = empty := rootF_0 _ _ h
theorem root_1 (l : List St) (h : l.length = 1) : root l = leaf (gd l 0) := rootF_1 _ _ h
theorem root_2 (l : List St) (h : 2 ≤ l.length) : root l = jn (root (l.take (spl l.length))) (root (l.drop (spl l.length))) := by
  have h4 := spl_pos h
  have h5 := spl_lt h
  obtain ⟨f, hf⟩ : ∃ f, l.length = f + 1 := ⟨l.length - 1, by omega⟩
  unfold root
  rw [hf]
  conv => lhs; unfold rootF
  rw [if_neg (by omega), if_neg (by omega), ← hf, rootF_eq f (l.take (spl l.length)).length _ (by simp; omega) (by omega), rootF_eq f (l.drop (spl l.length)).length _ (by simp; omega) (by omega)]

/-- The path of a leaf. -/
noncomputable def pathF : Nat → List St → Nat → List St
  | 0, _, _ => []
  | f + 1, l, i => if l.length < 2 then [] else if i < spl l.length then pathF f (l.take (spl l.length)) i ++ [root (l.drop (spl l.length))] else pathF f (l.drop (spl l.length)) (i - spl l.length) ++ [root (l.take (spl l.length))]
theorem pathF_0 (f : Nat) (l : List St) (i : Nat) (h : l.length < 2) : pathF f l i = [] := by
  cases f with
  | zero => rfl
  | succ f => unfold pathF; rw [if_pos h]
theorem pathF_eq : ∀ (f g : Nat) (l : List St) (i : Nat), l.length ≤ f + 1 → l.length ≤ g + 1 → pathF f l i = pathF g l i := by
  intro f
  induction f with
  | zero => intro g l i h1 h2; rw [pathF_0 _ _ _ (by omega), pathF_0 _ _ _ (by omega)]
  | succ f ih =>
    intro g l i h1 h2
    by_cases h : l.length < 2
    · rw [pathF_0 _ _ _ h, pathF_0 _ _ _ h]
    · obtain ⟨g', rfl⟩ : ∃ g', g = g' + 1 := ⟨g - 1, by omega⟩
      have h4 := spl_pos (n := l.length) (by omega)
      have h5 := spl_lt (n := l.length) (by omega)
      unfold pathF
      rw [if_neg h, if_neg h, ih g' (l.take (spl l.length)) i (by simp; omega) (by simp; omega), ih g' (l.drop (spl l.length)) (i - spl l.length) (by simp; omega) (by simp; omega)]
noncomputable def path (l : List St) (i : Nat) : List St := pathF l.length l i
theorem path_0 (l : List St) (i : Nat) (h : l.length < 2) : path l i = [] := pathF_0 _ _ _ h
theorem path_l (l : List St) (i : Nat) (h : 2 ≤ l.length) (hi : i < spl l.length) : path l i = path (l.take (spl l.length)) i ++ [root (l.drop (spl l.length))] := by
  have h4 := spl_pos h
  have h5 := spl_lt h
  obtain ⟨f, hf⟩ : ∃ f, l.length = f + 1 := ⟨l.length - 1, by omega⟩
  unfold path
  rw [hf]
  conv => lhs; unfold pathF
  rw [if_neg (by omega), if_pos hi, ← hf, pathF_eq f (l.take (spl l.length)).length _ _ (by simp; omega) (by omega)]
theorem path_r (l : List St) (i : Nat) (h : 2 ≤ l.length) (hi : ¬ i < spl l.length) : path l i = path (l.drop (spl l.length)) (i - spl l.length) ++ [root (l.take (spl l.length))] := by
  have h4 := spl_pos h
  have h5 := spl_lt h
  obtain ⟨f, hf⟩ : ∃ f, l.length = f + 1 := ⟨l.length - 1, by omega⟩
  unfold path
  rw [hf]
  conv => lhs; unfold pathF
  rw [if_neg (by omega), if_neg hi, ← hf, pathF_eq f (l.drop (spl l.length)).length _ _ (by simp; omega) (by omega)]

/-- The last element, and the others. -/
def lst (p : List St) : St := gd p (p.length - 1)
def ini (p : List St) : List St := p.take (p.length - 1)
theorem ini_len (p : List St) : (ini p).length = p.length - 1 := by unfold ini; simp
theorem ini_snoc (p : List St) (x : St) : ini (p ++ [x]) = p := by unfold ini; simp
theorem lst_snoc (p : List St) (x : St) : lst (p ++ [x]) = x := by unfold lst; simp [gd]
/-- The root that a leaf and a path lead to, and whether the path has the right length. -/
noncomputable def leadF : Nat → St → Nat → Nat → List St → St × Bool
  | 0, lf, i, n, p => if n = 1 then (lf, p.length == 0) else ((0, 0, 0, 0), false)
  | f + 1, lf, i, n, p => if n = 1 then (lf, p.length == 0) else if p.length = 0 then ((0, 0, 0, 0), false) else
      if i < spl n then (jn (leadF f lf i (spl n) (ini p)).1 (lst p), (leadF f lf i (spl n) (ini p)).2)
      else (jn (lst p) (leadF f lf (i - spl n) (n - spl n) (ini p)).1, (leadF f lf (i - spl n) (n - spl n) (ini p)).2)
noncomputable def lead (lf : St) (i n : Nat) (p : List St) : St × Bool := leadF p.length lf i n p
theorem leadF_1 (f : Nat) (lf : St) (i : Nat) (p : List St) : leadF f lf i 1 p = (lf, p.length == 0) := by
  cases f <;> (unfold leadF; rw [if_pos rfl])
theorem lead_1 (lf : St) (i : Nat) (p : List St) : lead lf i 1 p = (lf, p.length == 0) := leadF_1 _ _ _ _
theorem lead_0 (lf : St) (i n : Nat) (p : List St) (hn : n ≠ 1) (h : p.length = 0) : lead lf i n p = ((0, 0, 0, 0), false) := by
  unfold lead; rw [h]; unfold leadF; rw [if_neg hn]
theorem lead_l (lf : St) (i n : Nat) (p : List St) (hn : n ≠ 1) (h : p.length ≠ 0) (hi : i < spl n) : lead lf i n p = (jn (lead lf i (spl n) (ini p)).1 (lst p), (lead lf i (spl n) (ini p)).2) := by
  obtain ⟨f, hf⟩ : ∃ f, p.length = f + 1 := ⟨p.length - 1, by omega⟩
  unfold lead
  rw [ini_len, hf]
  conv => lhs; unfold leadF
  rw [if_neg hn, if_neg h, if_pos hi, Nat.add_sub_cancel]
theorem lead_r (lf : St) (i n : Nat) (p : List St) (hn : n ≠ 1) (h : p.length ≠ 0) (hi : ¬ i < spl n) : lead lf i n p = (jn (lst p) (lead lf (i - spl n) (n - spl n) (ini p)).1, (lead lf (i - spl n) (n - spl n) (ini p)).2) := by
  obtain ⟨f, hf⟩ : ∃ f, p.length = f + 1 := ⟨p.length - 1, by omega⟩
  unfold lead
  rw [ini_len, hf]
  conv => lhs; unfold leadF
  rw [if_neg hn, if_neg h, if_neg hi, Nat.add_sub_cancel]
/-- The path of a leaf leads to the root. -/
theorem lead_path : ∀ (m : Nat) (l : List St) (i : Nat), l.length ≤ m → i < l.length → lead (leaf (gd l i)) i l.length (path l i) = (root l, true) := by
  intro m
  induction m with
  | zero => intro l i h1 h2; omega
  | succ m ih =>
    intro l i h1 h2
    by_cases h : l.length < 2
    · have hl : l.length = 1 := by omega
      obtain rfl : i = 0 := by omega
      rw [path_0 l 0 h, hl, lead_1, root_1 l hl]
      rfl
    · have h4 := spl_pos (n := l.length) (by omega)
      have h5 := spl_lt (n := l.length) (by omega)
      by_cases hi : i < spl l.length
      · rw [path_l l i (by omega) hi, lead_l _ _ _ _ (by omega) (by simp) hi, ini_snoc, lst_snoc, root_2 l (by omega)]
        have hlen : (l.take (spl l.length)).length = spl l.length := by simp; omega
        have := ih (l.take (spl l.length)) i (by omega) (by omega)
        rw [hlen, gd_take _ _ _ hi] at this
        rw [this]
      · rw [path_r l i (by omega) hi, lead_r _ _ _ _ (by omega) (by simp) hi, ini_snoc, lst_snoc, root_2 l (by omega)]
        have hlen : (l.drop (spl l.length)).length = l.length - spl l.length := by simp
        have := ih (l.drop (spl l.length)) (i - spl l.length) (by omega) (by omega)
        rw [hlen, gd_drop, show spl l.length + (i - spl l.length) = i by omega] at this
        rw [this]
/-- Another leaf leads to something, too. -/
theorem lead_ok : ∀ (m : Nat) (l : List St) (lf : St) (i : Nat), l.length ≤ m → i < l.length → (lead lf i l.length (path l i)).2 = true := by
  intro m
  induction m with
  | zero => intro l lf i h1 h2; omega
  | succ m ih =>
    intro l lf i h1 h2
    by_cases h : l.length < 2
    · have hl : l.length = 1 := by omega
      rw [path_0 l i h, hl, lead_1]
      rfl
    · have h4 := spl_pos (n := l.length) (by omega)
      have h5 := spl_lt (n := l.length) (by omega)
      by_cases hi : i < spl l.length
      · rw [path_l l i (by omega) hi, lead_l _ _ _ _ (by omega) (by simp) hi, ini_snoc]
        have hlen : (l.take (spl l.length)).length = spl l.length := by simp; omega
        have := ih (l.take (spl l.length)) lf i (by omega) (by omega)
        rwa [hlen] at this
      · rw [path_r l i (by omega) hi, lead_r _ _ _ _ (by omega) (by simp) hi, ini_snoc]
        have hlen : (l.drop (spl l.length)).length = l.length - spl l.length := by simp
        have := ih (l.drop (spl l.length)) lf (i - spl l.length) (by omega) (by omega)
        rwa [hlen] at this
/-- A path is short. -/
theorem path_len : ∀ (e : Nat) (l : List St) (i : Nat), l.length ≤ 2 ^ e → (path l i).length ≤ e := by
  intro e
  induction e with
  | zero => intro l i h; rw [path_0 l i (by simp at h; omega)]; simp
  | succ e ih =>
    intro l i h
    by_cases h2 : l.length < 2
    · rw [path_0 l i h2]; simp
    · have h4 := spl_pos (n := l.length) (by omega)
      have h5 := spl_lt (n := l.length) (by omega)
      have h6 := spl_ge (n := l.length) (by omega)
      have h7 : spl l.length ≤ 2 ^ e := by
        rw [spl_eq (by omega)] at h5 ⊢
        have : 2 ^ Nat.log2 (l.length - 1) < 2 ^ (e + 1) := by omega
        have := (Nat.pow_lt_pow_iff_right (by omega : 1 < 2)).1 this
        exact Nat.pow_le_pow_right (by omega) (by omega)
      by_cases hi : i < spl l.length
      · rw [path_l l i (by omega) hi]
        have := ih (l.take (spl l.length)) i (by simp; omega)
        simp; omega
      · rw [path_r l i (by omega) hi]
        have := ih (l.drop (spl l.length)) (i - spl l.length) (by simp; omega)
        simp; omega
end Go.Proofs.YtdikoffppjoomaaGreat.Tr
namespace Go.Proofs.YtdikoffppjoomaaGreat.Tr
open Go.RowKit Go.Proofs.YtdikoffppjoomaaGreat.Dg Go.Proofs.YtdikoffppjoomaaGreat.Mw
set_option linter.unusedVariables false
set_option linter.unusedSimpArgs false

/-- The cells of a digest. -/
def dl (d : St) : List Value := [.int .u32 d.1, .int .u32 d.2.1, .int .u32 d.2.2.1, .int .u32 d.2.2.2]
/-- A slice with address A reads as a list of digests. -/
def RdD (w : World) (A : Option Addr) (l : List St) : Prop :=
  ∀ i, i < l.length → ∃ b off, A = some ⟨b, off, none⟩ ∧ b < w.heap.size ∧ ∀ j v, (dl (gd l i))[j]? = some v → w.cell? ⟨b, off + i * 4 + j, none⟩ = some v
section
variable {w w' : World} {A : Option Addr} {l : List St}
theorem RdD.nil (w : World) (A : Option Addr) : RdD w A [] := fun _ h => absurd h (by simp)
theorem RdD.at (h : RdD w A l) (i : Nat) (hi : i < l.length) : ∃ b off, A = some ⟨b, off, none⟩ ∧ b < w.heap.size ∧ w.cell? ⟨b, off + i * 4, none⟩ = some (.int .u32 (gd l i).1) ∧ w.cell? ⟨b, off + i * 4 + 1, none⟩ = some (.int .u32 (gd l i).2.1) ∧ w.cell? ⟨b, off + i * 4 + 2, none⟩ = some (.int .u32 (gd l i).2.2.1) ∧ w.cell? ⟨b, off + i * 4 + 3, none⟩ = some (.int .u32 (gd l i).2.2.2) := by
  obtain ⟨b, off, e, hb, hc⟩ := h i hi
  exact ⟨b, off, e, hb, hc 0 _ rfl, hc 1 _ rfl, hc 2 _ rfl, hc 3 _ rfl⟩
theorem RdD.old (h : RdD w A l) (hb : Below w.heap.size w w') : RdD w' A l := fun i hi => by
  obtain ⟨b, off, e, hlt, hc⟩ := h i hi
  exact ⟨b, off, e, Nat.lt_of_lt_of_le hlt hb.size, fun j v hv => (hb.cell (p := ⟨b, off + i * 4 + j, none⟩) hlt).trans (hc j v hv)⟩
theorem RdD.grown {r : Nat} (h : RdD w A l) (hg : w.grownBy w' (some r)) (hA : Away r A) : RdD w' A l := fun i hi => by
  obtain ⟨b, off, e, hlt, hc⟩ := h i hi
  exact ⟨b, off, e, Nat.lt_of_lt_of_le hlt hg.size, fun j v hv => (World.cell?_of_block (a := ⟨b, off + i * 4 + j, none⟩) (hg.block b hlt (by simpa using hA _ e))).trans (hc j v hv)⟩
theorem RdD.alloc (h : RdD w A l) (o : Obj) : RdD (w.alloc o) A l := h.old ((Below.refl _ _).alloc (Nat.le_refl _) o)
theorem RdD.drewN (h : RdD w A l) (n : Nat) : RdD (w.drewN n) A l := h
theorem RdD.drew (h : RdD w A l) : RdD w.drew A l := h
theorem RdD.far (h : RdD w A l) {p : Addr} (hA : Away p.block A) (u : Value) : RdD (w.setCell p u) A l :=
  h.grown (gb_set (gb_refl w (some p.block)) (.inl rfl) u) hA
theorem RdD.take (h : RdD w A l) (k : Nat) : RdD w A (l.take k) := fun i hi => by
  have hi' : i < k ∧ i < l.length := by simp at hi; omega
  obtain ⟨b, off, e, hlt, hc⟩ := h i hi'.2
  exact ⟨b, off, e, hlt, by rw [gd_take _ _ _ hi'.1]; exact hc⟩
theorem RdD.drop {b off : Nat} (h : RdD w (some ⟨b, off, none⟩) l) (k : Nat) : RdD w (some ⟨b, off + k * 4, none⟩) (l.drop k) := fun i hi => by
  have hi' : k + i < l.length := by simp at hi; omega
  obtain ⟨b', off', e, hlt, hc⟩ := h (k + i) hi'
  cases e
  refine ⟨b, off + k * 4, rfl, hlt, ?_⟩
  rw [gd_drop, show off + k * 4 + i * 4 = off + (k + i) * 4 by omega]
  exact hc
theorem add_at (g n : Nat) : (⟨g, 0, none⟩ : Addr).add n = ⟨g, n, none⟩ := by
  unfold Addr.add
  by_cases h : n = 0
  · subst h; rfl
  · simp [h]
theorem flat_len (l : List St) : (l.flatMap dl).length = l.length * 4 := by
  induction l with
  | nil => rfl
  | cons d l ih => rw [List.flatMap_cons, List.length_append, ih]; simp [dl]; omega
theorem flat_at : ∀ (l : List St) (i j : Nat) (v : Value), i < l.length → (dl (gd l i))[j]? = some v → (l.flatMap dl)[i * 4 + j]? = some v
  | d :: l, 0, j, v, _, h => by
    have hj : j < (dl d).length := by
      rcases Nat.lt_or_ge j (dl d).length with h1 | h1
      · exact h1
      · have h2 : (dl (gd (d :: l) 0))[j]? = none := List.getElem?_eq_none h1
        rw [h2] at h; cases h
    rw [List.flatMap_cons, Nat.zero_mul, Nat.zero_add, List.getElem?_append_left hj]
    exact h
  | d :: l, i + 1, j, v, hi, h => by
    have ih := flat_at l i j v (by simpa using hi) (by simpa [gd] using h)
    rw [List.flatMap_cons, List.getElem?_append_right (by simp [dl]; omega)]
    have e : (i + 1) * 4 + j - (dl d).length = i * 4 + j := by simp [dl]; omega
    rw [e]; exact ih
theorem RdD.own {base : Nat} {e : TypeId} {c n : Nat} (h : w.ownsRow base e 4 (.slice A n c) n (l.flatMap dl)) : RdD w A l := fun i hi => by
  have hn : n = l.length := by have := h.1; rw [flat_len] at this; omega
  obtain ⟨g, cap, hv, _, hlt⟩ := h.form (by omega)
  have hA : A = some ⟨g, 0, none⟩ := by injection hv
  subst hA
  refine ⟨g, 0, rfl, hlt, fun j v hv => ?_⟩
  have h1 := h.cells (g := g) rfl (i * 4 + j) v (flat_at l i j v hi hv)
  rw [add_at] at h1
  rwa [Nat.zero_add]
theorem RdD.bk {g : Nat} {cs : Array Value} {T : TypeId} (h : Bk w g T cs) (hcs : (l.flatMap dl).toArray = cs) : RdD w (some ⟨g, 0, none⟩) l := fun i hi => by
  subst hcs
  refine ⟨g, 0, rfl, h.lt, fun j v hv => ?_⟩
  rw [Nat.zero_add, h.cell, List.getElem?_toArray]
  exact flat_at l i j v hi hv
/-- A row of the call's own, of digests, as a slice. -/
theorem own_digs {base : Nat} {e : TypeId} {v : Value} {n : Nat} (h : w.ownsRow base e 4 v n (l.flatMap dl)) : ∃ A c, v = .slice A l.length c ∧ l.length ≤ c ∧ c ≤ maxLen ∧ RdD w A l ∧ ∀ a, A = some a → base ≤ a.block ∧ a.block < w.heap.size := by
  have hn : n = l.length := by have := h.1; rw [flat_len] at this; omega
  subst hn
  rcases h.2 with ⟨rfl, h0⟩ | ⟨g, cap, cur, rfl, hg, _, hnc, hcm, _⟩
  · obtain rfl := List.length_eq_zero_iff.1 h0
    exact ⟨none, 0, rfl, by simp, by simp, RdD.nil _ _, fun a ha => by cases ha⟩
  · exact ⟨_, cap, rfl, hnc, hcm, RdD.own h, fun a ha => h.lt a.block (by cases ha; rfl)⟩
theorem ones_dig (l : List St) : ∀ u ∈ l.flatMap dl, u.oneCell' = true := by
  intro u hu
  obtain ⟨d, _, hd⟩ := List.mem_flatMap.1 hu
  simp [dl] at hd
  rcases hd with rfl | rfl | rfl | rfl <;> rfl
theorem one_dig (d : St) : ∀ u ∈ dl d, u.oneCell' = true := by
  intro u hd
  simp [dl] at hd
  rcases hd with rfl | rfl | rfl | rfl <;> rfl
theorem news_dig {g : Nat} {T : TypeId} (d : St) (h : Bk w g T #[.int .u32 d.1, .int .u32 d.2.1, .int .u32 d.2.2.1, .int .u32 d.2.2.2]) : ∀ j u, (dl d)[j]? = some u → w.cell? ((⟨g, 0, none⟩ : Addr).add j) = some u := World.news_of_block h
theorem none_nil (h : RdD w none l) : l = [] := by
  rcases Nat.eq_zero_or_pos l.length with h0 | h0
  · exact List.length_eq_zero_iff.1 h0
  · obtain ⟨_, _, e, _⟩ := h 0 h0; cases e
end
end Go.Proofs.YtdikoffppjoomaaGreat.Tr
