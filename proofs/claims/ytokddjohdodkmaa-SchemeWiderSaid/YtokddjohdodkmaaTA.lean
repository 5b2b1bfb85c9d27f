/- Plain mathematics of the item layer: parts, items, papers; slices of parts. No program in sight. -/
import Derived.Test.YtokddjohdodkmaaMW
namespace Go.Proofs.Ytokddjohdodkmaa.Tm
open Go.RowKit Go.Proofs.Ytokddjohdodkmaa.Mw
set_option linter.unusedVariables false
set_option linter.unusedSimpArgs false

/-- A part of an item. -/
structure Pt where
  k : Int
  m : Int
  t : Int
  o : Int
  n : Int
  y : Int
instance : Inhabited Pt := ⟨⟨0, 0, 0, 0, 0, 0⟩⟩
abbrev pv (p : Pt) : Value := .agg #[.int .i64 p.k, .int .i64 p.m, .int .i64 p.t, .int .i64 p.o, .int .i64 p.n, .int .i64 p.y]
def pl (p : Pt) : List Value := [.int .i64 p.k, .int .i64 p.m, .int .i64 p.t, .int .i64 p.o, .int .i64 p.n, .int .i64 p.y]
/-- Part number i. -/
def gp (l : List Pt) (i : Nat) : Pt := l.getD i default
theorem gp_lt (l : List Pt) (i : Nat) (h : i < l.length) : l[i]? = some (gp l i) := by
  unfold gp; rw [List.getD_eq_getElem?_getD, List.getElem?_eq_getElem h]; rfl
theorem gp_left (l m : List Pt) (i : Nat) (h : i < l.length) : gp (l ++ m) i = gp l i := by
  unfold gp; rw [List.getD_eq_getElem?_getD, List.getD_eq_getElem?_getD, List.getElem?_append_left h]
theorem gp_snoc (l : List Pt) (p : Pt) : gp (l ++ [p]) l.length = p := by unfold gp; simp
theorem gp_mem (l : List Pt) (i : Nat) (h : i < l.length) : gp l i ∈ l := List.mem_of_getElem? (gp_lt l i h)

/-- All of the first numbers have a property. -/
def allI (n : Nat) (P : Nat → Bool) : Bool := (List.range n).all P
theorem allI_true {n : Nat} {P : Nat → Bool} (h : ∀ j, j < n → P j = true) : allI n P = true := by
  unfold allI; rw [List.all_eq_true]; intro j hj; exact h j (List.mem_range.1 hj)
theorem allI_at {n : Nat} {P : Nat → Bool} (h : allI n P = true) (j : Nat) (hj : j < n) : P j = true := by
  unfold allI at h; rw [List.all_eq_true] at h; exact h j (List.mem_range.2 hj)
theorem allI_false {n : Nat} {P : Nat → Bool} (j : Nat) (hj : j < n) (h : P j = false) : allI n P = false := by
  cases e : allI n P
  · rfl
  · have := allI_at e j hj; rw [h] at this; cases this

/-- Which parts are valid. -/
def vp (p : Pt) : Bool := decide (1 ≤ p.m ∧ p.m ≤ 40 ∧ 0 ≤ p.t ∧ p.t < 16 ∧ 0 ≤ p.o ∧ p.o < 6 ∧ ((p.k = 1 ∧ p.n = 0 ∧ p.y = 0) ∨ (p.k = 2 ∧ 2 ≤ p.n ∧ p.n ≤ 5 ∧ 0 ≤ p.y ∧ p.y < p.n)))
theorem vp_iff (p : Pt) : vp p = true ↔ (1 ≤ p.m ∧ p.m ≤ 40 ∧ 0 ≤ p.t ∧ p.t < 16 ∧ 0 ≤ p.o ∧ p.o < 6 ∧ ((p.k = 1 ∧ p.n = 0 ∧ p.y = 0) ∨ (p.k = 2 ∧ 2 ≤ p.n ∧ p.n ≤ 5 ∧ 0 ≤ p.y ∧ p.y < p.n))) := by unfold vp; exact decide_eq_true_iff
def isn (n : Int) : Bool := decide (0 ≤ n ∧ n ≤ 9999)
/-- Byte number k of a string, as an integer. -/
def byt (s : ByteArray) (k : Nat) : Int := ((s.data.toList.getD k 0).toNat : Int)
theorem byt_at (s : ByteArray) (k : Nat) (h : k < s.size) : byt s k = ↑s[k].toNat := by
  have hk' : k < s.data.toList.length := by simpa using h
  unfold byt; rw [List.getD_eq_getElem?_getD, List.getElem?_eq_getElem hk']; rfl
def bok (c : Int) : Bool := decide (32 ≤ c ∧ c ≤ 126)
/-- Whether a text can be printed. -/
def prt (s : ByteArray) : Bool := allI s.size fun i => bok (byt s i)
/-- Whether enemy number i is right. -/
def enAt (id : Int) (l : List Int) (i : Nat) : Bool := decide (0 ≤ gi l i ∧ gi l i ≤ 9999 ∧ gi l i ≠ id ∧ (i = 0 ∨ gi l (i - 1) < gi l i))
def enOk (id : Int) (l : List Int) : Bool := allI l.length (enAt id l)
def psOk (l : List Pt) : Bool := allI l.length fun i => vp (gp l i)

/-- An item. -/
structure It where
  id : Int
  ver : Int
  stem : ByteArray
  ps : List Pt
  en : List Int
abbrev iv (x : It) (A : Option Addr) (c : Nat) (E : Option Addr) (d : Nat) : Value := .agg #[.int .i64 x.id, .int .i64 x.ver, .string x.stem, .slice A x.ps.length c, .slice E x.en.length d]
/-- The error of an item. -/
def chk (x : It) : Int :=
  if isn x.id = true ∧ 1 ≤ x.ver ∧ x.ver ≤ 8 then
    if x.stem.size ≤ 40 ∧ x.ps.length ≤ 6 ∧ x.en.length ≤ 8 then
      if x.stem.size ≠ 0 ∧ prt x.stem = true then
        if x.ps.length ≠ 0 then
          if psOk x.ps = true then
            if enOk x.id x.en = true then 0 else 9
          else 1
        else 10
      else 7
    else 3
  else 2
/-- The sum of the marks of the first parts. -/
def sm (l : List Pt) : Nat → Int
  | 0 => 0
  | n + 1 => sm l n + (gp l n).m
theorem sm_bd (l : List Pt) (h : psOk l = true) : ∀ k, k ≤ l.length → (k : Int) ≤ sm l k ∧ sm l k ≤ 40 * k
  | 0, _ => by simp [sm]
  | k + 1, hk => by
    have ih := sm_bd l h k (by omega)
    have hv := (vp_iff _).1 (allI_at h k (by omega))
    unfold sm
    omega
/-- The marks of an item. -/
def tot (x : It) : Int := if chk x = 0 then sm x.ps x.ps.length else 0

section
variable {x : It}
theorem chk_2 (h : ¬ (isn x.id = true ∧ 1 ≤ x.ver ∧ x.ver ≤ 8)) : chk x = 2 := by unfold chk; rw [if_neg h]
theorem chk_3 (h1 : isn x.id = true ∧ 1 ≤ x.ver ∧ x.ver ≤ 8) (h : ¬ (x.stem.size ≤ 40 ∧ x.ps.length ≤ 6 ∧ x.en.length ≤ 8)) : chk x = 3 := by unfold chk; rw [if_pos h1, if_neg h]
theorem chk_7 (h1 : isn x.id = true ∧ 1 ≤ x.ver ∧ x.ver ≤ 8) (h2 : x.stem.size ≤ 40 ∧ x.ps.length ≤ 6 ∧ x.en.length ≤ 8) (h : ¬ (x.stem.size ≠ 0 ∧ prt x.stem = true)) : chk x = 7 := by unfold chk; rw [if_pos h1, if_pos h2, if_neg h]
theorem chk_10 (h1 : isn x.id = true ∧ 1 ≤ x.ver ∧ x.ver ≤ 8) (h2 : x.stem.size ≤ 40 ∧ x.ps.length ≤ 6 ∧ x.en.length ≤ 8) (h3 : x.stem.size ≠ 0 ∧ prt x.stem = true) (h : x.ps.length = 0) : chk x = 10 := by unfold chk; rw [if_pos h1, if_pos h2, if_pos h3, if_neg (by omega)]
theorem chk_1 (h1 : isn x.id = true ∧ 1 ≤ x.ver ∧ x.ver ≤ 8) (h2 : x.stem.size ≤ 40 ∧ x.ps.length ≤ 6 ∧ x.en.length ≤ 8) (h3 : x.stem.size ≠ 0 ∧ prt x.stem = true) (h4 : x.ps.length ≠ 0) (h : psOk x.ps = false) : chk x = 1 := by unfold chk; rw [if_pos h1, if_pos h2, if_pos h3, if_pos h4, if_neg (by simp [h])]
theorem chk_9 (h1 : isn x.id = true ∧ 1 ≤ x.ver ∧ x.ver ≤ 8) (h2 : x.stem.size ≤ 40 ∧ x.ps.length ≤ 6 ∧ x.en.length ≤ 8) (h3 : x.stem.size ≠ 0 ∧ prt x.stem = true) (h4 : x.ps.length ≠ 0) (h5 : psOk x.ps = true) (h : enOk x.id x.en = false) : chk x = 9 := by unfold chk; rw [if_pos h1, if_pos h2, if_pos h3, if_pos h4, if_pos h5, if_neg (by simp [h])]
theorem chk_0 (h1 : isn x.id = true ∧ 1 ≤ x.ver ∧ x.ver ≤ 8) (h2 : x.stem.size ≤ 40 ∧ x.ps.length ≤ 6 ∧ x.en.length ≤ 8) (h3 : x.stem.size ≠ 0 ∧ prt x.stem = true) (h4 : x.ps.length ≠ 0) (h5 : psOk x.ps = true) (h : enOk x.id x.en = true) : chk x = 0 := by unfold chk; rw [if_pos h1, if_pos h2, if_pos h3, if_pos h4, if_pos h5, if_pos h]
theorem chk_ok (h : chk x = 0) : (isn x.id = true ∧ 1 ≤ x.ver ∧ x.ver ≤ 8) ∧ (x.stem.size ≤ 40 ∧ x.ps.length ≤ 6 ∧ x.en.length ≤ 8) ∧ (x.stem.size ≠ 0 ∧ prt x.stem = true) ∧ x.ps.length ≠ 0 ∧ psOk x.ps = true ∧ enOk x.id x.en = true := by
  unfold chk at h
  by_cases h1 : isn x.id = true ∧ 1 ≤ x.ver ∧ x.ver ≤ 8
  · rw [if_pos h1] at h
    by_cases h2 : x.stem.size ≤ 40 ∧ x.ps.length ≤ 6 ∧ x.en.length ≤ 8
    · rw [if_pos h2] at h
      by_cases h3 : x.stem.size ≠ 0 ∧ prt x.stem = true
      · rw [if_pos h3] at h
        by_cases h4 : x.ps.length ≠ 0
        · rw [if_pos h4] at h
          by_cases h5 : psOk x.ps = true
          · rw [if_pos h5] at h
            by_cases h6 : enOk x.id x.en = true
            · exact ⟨h1, h2, h3, h4, h5, h6⟩
            · rw [if_neg h6] at h; omega
          · rw [if_neg h5] at h; omega
        · rw [if_neg h4] at h; omega
      · rw [if_neg h3] at h; omega
    · rw [if_neg h2] at h; omega
  · rw [if_neg h1] at h; omega
end

/-- A slice with address A reads as a list of parts. -/
def RdP (w : World) (A : Option Addr) (l : List Pt) : Prop :=
  ∀ i, i < l.length → ∃ b off, A = some ⟨b, off, none⟩ ∧ b < w.heap.size ∧ ∀ j v, (pl (gp l i))[j]? = some v → w.cell? ⟨b, off + i * 6 + j, none⟩ = some v
section
variable {w w' : World} {A : Option Addr} {l : List Pt}
theorem RdP.nil (w : World) (A : Option Addr) : RdP w A [] := fun _ h => absurd h (by simp)
theorem RdP.at (h : RdP w A l) (i : Nat) (hi : i < l.length) : ∃ b off, A = some ⟨b, off, none⟩ ∧ b < w.heap.size ∧ w.cell? ⟨b, off + i * 6, none⟩ = some (.int .i64 (gp l i).k) ∧ w.cell? ⟨b, off + i * 6 + 1, none⟩ = some (.int .i64 (gp l i).m) ∧ w.cell? ⟨b, off + i * 6 + 2, none⟩ = some (.int .i64 (gp l i).t) ∧ w.cell? ⟨b, off + i * 6 + 3, none⟩ = some (.int .i64 (gp l i).o) ∧ w.cell? ⟨b, off + i * 6 + 4, none⟩ = some (.int .i64 (gp l i).n) ∧ w.cell? ⟨b, off + i * 6 + 5, none⟩ = some (.int .i64 (gp l i).y) := by
  obtain ⟨b, off, e, hb, hc⟩ := h i hi
  exact ⟨b, off, e, hb, hc 0 _ rfl, hc 1 _ rfl, hc 2 _ rfl, hc 3 _ rfl, hc 4 _ rfl, hc 5 _ rfl⟩
theorem RdP.old (h : RdP w A l) (hb : Below w.heap.size w w') : RdP w' A l := fun i hi => by
  obtain ⟨b, off, e, hlt, hc⟩ := h i hi
  exact ⟨b, off, e, Nat.lt_of_lt_of_le hlt hb.size, fun j v hv => (hb.cell (p := ⟨b, off + i * 6 + j, none⟩) hlt).trans (hc j v hv)⟩
theorem RdP.grown {r : Nat} (h : RdP w A l) (hg : w.grownBy w' (some r)) (hA : Away r A) : RdP w' A l := fun i hi => by
  obtain ⟨b, off, e, hlt, hc⟩ := h i hi
  exact ⟨b, off, e, Nat.lt_of_lt_of_le hlt hg.size, fun j v hv => (World.cell?_of_block (a := ⟨b, off + i * 6 + j, none⟩) (hg.block b hlt (by simpa using hA _ e))).trans (hc j v hv)⟩
theorem RdP.alloc (h : RdP w A l) (o : Obj) : RdP (w.alloc o) A l := h.old ((Below.refl _ _).alloc (Nat.le_refl _) o)
theorem RdP.drewN (h : RdP w A l) (n : Nat) : RdP (w.drewN n) A l := h
theorem RdP.far (h : RdP w A l) {p : Addr} (hA : Away p.block A) (u : Value) : RdP (w.setCell p u) A l :=
  h.grown (gb_set (gb_refl w (some p.block)) (.inl rfl) u) hA
theorem add_at (g n : Nat) : (⟨g, 0, none⟩ : Addr).add n = ⟨g, n, none⟩ := by
  unfold Addr.add
  by_cases h : n = 0
  · subst h; rfl
  · simp [h]
theorem pl_len (p : Pt) : (pl p).length = 6 := rfl
theorem flat_len (l : List Pt) : (l.flatMap pl).length = l.length * 6 := by
  induction l with
  | nil => rfl
  | cons a l ih => rw [List.flatMap_cons, List.length_append, ih, pl_len, List.length_cons]; omega
theorem flat_at : ∀ (l : List Pt) (i j : Nat), i < l.length → j < 6 → (l.flatMap pl)[i * 6 + j]? = (pl (gp l i))[j]?
  | a :: l, 0, j, _, hj => by
    rw [List.flatMap_cons, List.getElem?_append_left (by rw [pl_len]; omega)]
    simp [gp]
  | a :: l, i + 1, j, hi, hj => by
    rw [List.flatMap_cons, List.getElem?_append_right (by rw [pl_len]; omega), pl_len, show (i + 1) * 6 + j - 6 = i * 6 + j by omega, flat_at l i j (by simpa using hi) hj]
    simp [gp]
theorem RdP.own {base : Nat} {e : TypeId} {c n : Nat} (h : w.ownsRow base e 6 (.slice A n c) n (l.flatMap pl)) : RdP w A l := fun i hi => by
  have hn : n = l.length := by have := h.1; rw [flat_len] at this; omega
  obtain ⟨g, cap, hv, _, hlt⟩ := h.form (by omega)
  have hA : A = some ⟨g, 0, none⟩ := by injection hv
  subst hA
  refine ⟨g, 0, rfl, hlt, fun j v hv => ?_⟩
  have hj : j < 6 := by
    rcases Nat.lt_or_ge j 6 with h | h
    · exact h
    · rw [List.getElem?_eq_none (by rw [pl_len]; exact h)] at hv; cases hv
  have := h.cells (g := g) rfl (i * 6 + j) v (by rw [flat_at l i j hi hj]; exact hv)
  rw [Nat.zero_add]
  rw [add_at] at this
  exact this
end

theorem RdP.bk {w : World} {g : Nat} {cs : Array Value} {T : TypeId} {l : List Pt} (h : Bk w g T cs) (hcs : (l.flatMap pl).toArray = cs) : RdP w (some ⟨g, 0, none⟩) l := fun i hi => by
  subst hcs
  refine ⟨g, 0, rfl, h.lt, fun j v hv => ?_⟩
  have hj : j < 6 := by
    rcases Nat.lt_or_ge j 6 with h | h
    · exact h
    · rw [List.getElem?_eq_none (by rw [pl_len]; exact h)] at hv; cases hv
  rw [Nat.zero_add, h.cell, List.getElem?_toArray, flat_at l i j hi hj]
  exact hv
/-- A row of the call's own, of parts, as a slice. -/
theorem own_parts {w : World} {l : List Pt} {base : Nat} {e : TypeId} {v : Value} {n : Nat} (h : w.ownsRow base e 6 v n (l.flatMap pl)) : ∃ A c, v = .slice A l.length c ∧ RdP w A l ∧ ∀ a, A = some a → base ≤ a.block ∧ a.block < w.heap.size := by
  have hn : n = l.length := by have := h.1; rw [flat_len] at this; omega
  subst hn
  rcases h.2 with ⟨rfl, h0⟩ | ⟨g, cap, cur, rfl, hg, _⟩
  · obtain rfl := List.length_eq_zero_iff.1 h0
    exact ⟨none, 0, rfl, RdP.nil _ _, fun a ha => by cases ha⟩
  · exact ⟨_, cap, rfl, RdP.own h, fun a ha => h.lt a.block (by cases ha; rfl)⟩

/-- Equality of two parts, as a Bool. -/
def peq (p q : Pt) : Bool := p.k == q.k && p.m == q.m && p.t == q.t && p.o == q.o && p.n == q.n && p.y == q.y
theorem peq_self (p : Pt) : peq p p = true := by simp [peq]
theorem peq_comm (p q : Pt) : peq p q = peq q p := by
  have h : ∀ a b : Int, (a == b) = (b == a) := fun a b => by rw [Bool.eq_iff_iff]; simp; omega
  unfold peq; rw [h p.k, h p.m, h p.t, h p.o, h p.n, h p.y]
/-- Whether part number i differs. -/
def dif (a b : List Pt) (i : Nat) : Bool := decide (a.length ≤ i) || decide (b.length ≤ i) || !peq (gp a i) (gp b i)
/-- The numbers of the first parts that differ. -/
def mt (a b : List Pt) : Nat → List Int
  | 0 => []
  | k + 1 => if dif a b k = true then mt a b k ++ [(k : Int)] else mt a b k
theorem mt_len (a b : List Pt) : ∀ k, (mt a b k).length ≤ k
  | 0 => by simp [mt]
  | k + 1 => by
    have := mt_len a b k
    unfold mt
    split
    · simp; omega
    · omega
/-- The numbers of the parts that differ. -/
def mat (a b : List Pt) : List Int := mt a b (max a.length b.length)
theorem mt_comm (a b : List Pt) : ∀ k, mt a b k = mt b a k
  | 0 => rfl
  | k + 1 => by
    have : dif a b k = dif b a k := by unfold dif; rw [peq_comm, Bool.or_comm (decide (a.length ≤ k))]
    unfold mt; rw [mt_comm a b k, this]
theorem mat_comm (a b : List Pt) : mat a b = mat b a := by unfold mat; rw [mt_comm, Nat.max_comm]
theorem mat_self (a : List Pt) : mat a a = [] := by
  have : ∀ k, k ≤ a.length → mt a a k = [] := by
    intro k
    induction k with
    | zero => intro _; rfl
    | succ k ih =>
      intro hk
      unfold mt
      rw [ih (by omega)]
      have : dif a a k = false := by unfold dif; rw [peq_self]; simp; omega
      rw [this]; rfl
  unfold mat; rw [Nat.max_self]; exact this _ (Nat.le_refl _)

/-- An item's slices read as its lists; its sizes are small. -/
def ItOk (w : World) (x : It) (A E : Option Addr) : Prop := RdP w A x.ps ∧ RdI w .i64 E x.en ∧ x.stem.size ≤ 1000000 ∧ x.ps.length ≤ 1000000 ∧ x.en.length ≤ 1000000
theorem ItOk.old {w w' : World} {x : It} {A E : Option Addr} (h : ItOk w x A E) (hb : Below w.heap.size w w') : ItOk w' x A E := ⟨h.1.old hb, h.2.1.old hb, h.2.2⟩
theorem ItOk.grown {w w' : World} {x : It} {A E : Option Addr} {r : Nat} (h : ItOk w x A E) (hg : w.grownBy w' (some r)) (hA : Away r A) (hE : Away r E) : ItOk w' x A E := ⟨h.1.grown hg hA, h.2.1.grown hg hE, h.2.2⟩
end Go.Proofs.Ytokddjohdodkmaa.Tm
