/- Plain mathematics of the scheme layer: papers, schemes, marks; slices of slices. No program in sight. -/
import Derived.Test.YtokddjohdodkmaaTQ
import Derived.Test.YtokddjohdodkmaaTEn
namespace Go.Proofs.Ytokddjohdodkmaa.Tm
open Go.RowKit Go.Proofs.Ytokddjohdodkmaa.Mw
set_option linter.unusedVariables false
set_option linter.unusedSimpArgs false

theorem hs_at {l : List Int} {v : Int} (h : hs l v = true) : ∃ k, k < l.length ∧ gi l k = v := by
  have hm : v ∈ l := of_decide_eq_true h
  obtain ⟨j, hj⟩ := List.mem_iff_getElem?.1 hm
  have hlt : j < l.length := by
    rcases Nat.lt_or_ge j l.length with h1 | h1
    · exact h1
    · rw [List.getElem?_eq_none h1] at hj; cases hj
  rw [gi_lt l j hlt] at hj
  exact ⟨j, hlt, by simpa using hj⟩
/-- A paper: its numbers, its slice of parts and what it reads as. -/
structure Pa where
  c : Int
  v : Int
  A : Option Addr
  k : Nat
  l : List Pt
abbrev pac (p : Pa) : Array Value := ppc p.c p.v p.A p.l p.k
abbrev pav (p : Pa) : Value := .agg (pac p)
/-- The paper's slice reads as its list, which is short. -/
structure PaOk (w : World) (p : Pa) : Prop where
  rd : RdP w p.A p.l
  len : p.l.length ≤ 1000
/-- The keys of a part: a slice and what it reads as. -/
structure Ky where
  A : Option Addr
  c : Nat
  l : List Int
instance : Inhabited Ky := ⟨⟨none, 0, []⟩⟩
abbrev kv (k : Ky) : Value := .slice k.A k.l.length k.c
/-- Keys number i. -/
def gk (l : List Ky) (i : Nat) : Ky := l.getD i default
theorem gk_lt (l : List Ky) (i : Nat) (h : i < l.length) : l[i]? = some (gk l i) := by
  unfold gk; rw [List.getD_eq_getElem?_getD, List.getElem?_eq_getElem h]; rfl
theorem gk_left (l m : List Ky) (i : Nat) (h : i < l.length) : gk (l ++ m) i = gk l i := by
  unfold gk; rw [List.getD_eq_getElem?_getD, List.getD_eq_getElem?_getD, List.getElem?_append_left h]
theorem gk_snoc (l : List Ky) (p : Ky) : gk (l ++ [p]) l.length = p := by unfold gk; simp
/-- A slice of slices reads as a list of keys. -/
def RdK (w : World) (K : Option Addr) (ks : List Ky) : Prop :=
  ∀ i, i < ks.length → ∃ b off, K = some ⟨b, off, none⟩ ∧ b < w.heap.size ∧ w.cell? ⟨b, off + i, none⟩ = some (kv (gk ks i)) ∧ RdI w .i64 (gk ks i).A (gk ks i).l
section
variable {w w' : World} {K : Option Addr} {ks : List Ky}
theorem RdK.nil (w : World) (K : Option Addr) : RdK w K [] := fun _ h => absurd h (by simp)
theorem RdK.old (h : RdK w K ks) (hb : Below w.heap.size w w') : RdK w' K ks := fun i hi => by
  obtain ⟨b, off, e, hlt, hc, hr⟩ := h i hi
  exact ⟨b, off, e, Nat.lt_of_lt_of_le hlt hb.size, (hb.cell (p := ⟨b, off + i, none⟩) hlt).trans hc, hr.old hb⟩
theorem RdK.grown {r : Nat} (h : RdK w K ks) (hg : w.grownBy w' (some r)) (hA : Away r K) (hk : ∀ i, i < ks.length → Away r (gk ks i).A) : RdK w' K ks := fun i hi => by
  obtain ⟨b, off, e, hlt, hc, hr⟩ := h i hi
  exact ⟨b, off, e, Nat.lt_of_lt_of_le hlt hg.size, (World.cell?_of_block (a := ⟨b, off + i, none⟩) (hg.block b hlt (by simpa using hA _ e))).trans hc, hr.grown hg (hk i hi)⟩
theorem RdK.own {base : Nat} {e : TypeId} {c n : Nat} (h : w.ownsRow base e 1 (.slice K n c) n (ks.map kv)) (hk : ∀ i, i < ks.length → RdI w .i64 (gk ks i).A (gk ks i).l) : RdK w K ks := fun i hi => by
  have hn : n = ks.length := by have := h.1; simpa using this.symm
  obtain ⟨g, cap, hv, _, hlt⟩ := h.form (by omega)
  have hA : K = some ⟨g, 0, none⟩ := by injection hv
  subst hA
  refine ⟨g, 0, rfl, hlt, ?_, hk i hi⟩
  rw [Nat.zero_add, h.cellAt i (by omega), List.getElem?_map, gk_lt ks i hi]
  rfl
/-- A row of the call's own, of keys, as a slice. -/
theorem own_keys {base : Nat} {e : TypeId} {v : Value} {n : Nat} (h : w.ownsRow base e 1 v n (ks.map kv)) (hk : ∀ i, i < ks.length → RdI w .i64 (gk ks i).A (gk ks i).l) : ∃ A c, v = .slice A ks.length c ∧ RdK w A ks ∧ ∀ a, A = some a → base ≤ a.block ∧ a.block < w.heap.size := by
  have hn : n = ks.length := by have := h.1; simpa using this.symm
  subst hn
  rcases h.2 with ⟨rfl, h0⟩ | ⟨g, cap, cur, rfl, hg, _⟩
  · obtain rfl := List.length_eq_zero_iff.1 h0
    exact ⟨none, 0, rfl, RdK.nil _ _, fun a ha => by cases ha⟩
  · exact ⟨_, cap, rfl, RdK.own h hk, fun a ha => h.lt a.block (by cases ha; rfl)⟩
end

/-- A scheme: its slices and what they read as. -/
structure Sc where
  K : Option Addr
  ck : Nat
  ks : List Ky
  W : Option Addr
  cw : Nat
  wd : List Int
abbrev scc (s : Sc) : Array Value := #[.slice s.K s.ks.length s.ck, .slice s.W s.wd.length s.cw]
abbrev scv (s : Sc) : Value := .agg (scc s)
/-- The scheme's slices read as its lists, which are short. -/
structure ScOk (w : World) (s : Sc) : Prop where
  rk : RdK w s.K s.ks
  rw : RdI w .i64 s.W s.wd
  lk : s.ks.length ≤ 1000
  lw : s.wd.length ≤ 1000
  le : ∀ i, i < s.ks.length → (gk s.ks i).l.length ≤ 1000
theorem PaOk.old {w w' : World} {p : Pa} (h : PaOk w p) (hb : Below w.heap.size w w') : PaOk w' p := ⟨h.rd.old hb, h.len⟩
theorem ScOk.old {w w' : World} {s : Sc} (h : ScOk w s) (hb : Below w.heap.size w w') : ScOk w' s := ⟨h.rk.old hb, h.rw.old hb, h.lk, h.lw, h.le⟩
theorem PaOk.alloc {w : World} {p : Pa} (h : PaOk w p) (o : Obj) : PaOk (w.alloc o) p := h.old ((Below.refl _ _).alloc (Nat.le_refl _) o)
theorem ScOk.alloc {w : World} {s : Sc} (h : ScOk w s) (o : Obj) : ScOk (w.alloc o) s := h.old ((Below.refl _ _).alloc (Nat.le_refl _) o)
/-- None of the scheme's memory lies in a block. -/
structure ScAw (r : Nat) (s : Sc) : Prop where
  k : Away r s.K
  w : Away r s.W
  l : ∀ i, i < s.ks.length → Away r (gk s.ks i).A
theorem ScOk.grown {w w' : World} {s : Sc} {r : Nat} (h : ScOk w s) (hg : w.grownBy w' (some r)) (ha : ScAw r s) : ScOk w' s := ⟨h.rk.grown hg ha.k ha.l, h.rw.grown hg ha.w, h.lk, h.lw, h.le⟩
theorem PaOk.grown {w w' : World} {p : Pa} {r : Nat} (h : PaOk w p) (hg : w.grownBy w' (some r)) (ha : Away r p.A) : PaOk w' p := ⟨h.rd.grown hg ha, h.len⟩

/-- Whether key number i of a part with n options is right. -/
def kAt (n : Int) (l : List Int) (i : Nat) : Bool := decide (0 ≤ gi l i ∧ gi l i < n ∧ (i = 0 ∨ gi l (i - 1) < gi l i))
def kOk (n : Int) (l : List Int) : Bool := allI l.length (kAt n l)
/-- A kind of withdrawal. -/
def knd (k : Int) : Bool := decide (0 ≤ k ∧ k ≤ 2)
def svAt (p : Pa) (s : Sc) (i : Nat) : Bool := kOk (gp p.l i).n (gk s.ks i).l && knd (gi s.wd i)
/-- Which schemes are valid. -/
def svh (p : Pa) (s : Sc) : Bool := vpp p.c p.v p.l && decide (s.ks.length = p.l.length) && decide (s.wd.length = p.l.length)
def sval (p : Pa) (s : Sc) : Bool := svh p s && allI p.l.length (svAt p s)
theorem svh_ok {p : Pa} {s : Sc} (h : svh p s = true) : vpp p.c p.v p.l = true ∧ s.ks.length = p.l.length ∧ s.wd.length = p.l.length := by
  unfold svh at h
  simp only [Bool.and_eq_true, decide_eq_true_eq] at h
  exact ⟨h.1.1, h.1.2, h.2⟩
theorem svh_mk {p : Pa} {s : Sc} (h : vpp p.c p.v p.l = true) (h1 : s.ks.length = p.l.length) (h2 : s.wd.length = p.l.length) : svh p s = true := by
  unfold svh; rw [h]; simp [h1, h2]
theorem sval_no1 {p : Pa} {s : Sc} (h : vpp p.c p.v p.l = false) : sval p s = false := by unfold sval svh; rw [h]; simp
theorem sval_no2 {p : Pa} {s : Sc} (h : ¬ s.ks.length = p.l.length) : sval p s = false := by unfold sval svh; simp [h]
theorem sval_no3 {p : Pa} {s : Sc} (h : ¬ s.wd.length = p.l.length) : sval p s = false := by unfold sval svh; simp [h]
theorem sval_no4 {p : Pa} {s : Sc} (i : Nat) (hi : i < p.l.length) (h : svAt p s i = false) : sval p s = false := by unfold sval; rw [allI_false i hi h]; simp
theorem sval_mk {p : Pa} {s : Sc} (h : vpp p.c p.v p.l = true) (h1 : s.ks.length = p.l.length) (h2 : s.wd.length = p.l.length) (h3 : ∀ i, i < p.l.length → svAt p s i = true) : sval p s = true := by
  unfold sval; rw [svh_mk h h1 h2, allI_true h3]; rfl
structure SOk (p : Pa) (s : Sc) : Prop where
  vp : vpp p.c p.v p.l = true
  lk : s.ks.length = p.l.length
  lw : s.wd.length = p.l.length
  at_ : ∀ i, i < p.l.length → svAt p s i = true
theorem sval_ok {p : Pa} {s : Sc} (h : sval p s = true) : SOk p s := by
  unfold sval at h
  simp only [Bool.and_eq_true] at h
  obtain ⟨a, b, c⟩ := svh_ok h.1
  exact ⟨a, b, c, fun i hi => allI_at h.2 i hi⟩
theorem SOk.val {p : Pa} {s : Sc} (h : SOk p s) : sval p s = true := sval_mk h.vp h.lk h.lw h.at_
theorem SOk.part {p : Pa} {s : Sc} (h : SOk p s) (i : Nat) (hi : i < p.l.length) : Tm.vp (gp p.l i) = true := allI_at (vpp_ok h.vp).2.1 i hi
theorem SOk.len {p : Pa} {s : Sc} (h : SOk p s) : p.l.length ≤ 24 := by
  have := decide_eq_true_iff.1 (vpp_ok h.vp).1
  omega
theorem SOk.knd {p : Pa} {s : Sc} (h : SOk p s) (i : Nat) (hi : i < p.l.length) : 0 ≤ gi s.wd i ∧ gi s.wd i ≤ 2 := by
  have := h.at_ i hi
  unfold svAt Tm.knd at this
  simp only [Bool.and_eq_true, decide_eq_true_eq] at this
  exact this.2
theorem SOk.key {p : Pa} {s : Sc} (h : SOk p s) (i : Nat) (hi : i < p.l.length) (j : Nat) (hj : j < (gk s.ks i).l.length) : 0 ≤ gi (gk s.ks i).l j ∧ gi (gk s.ks i).l j < (gp p.l i).n := by
  have := h.at_ i hi
  unfold svAt at this
  simp only [Bool.and_eq_true] at this
  have := decide_eq_true_iff.1 (allI_at this.1 j hj)
  exact ⟨this.1, this.2.1⟩
/-- Whether an answer is accepted. -/
def acc (p : Pt) (l : List Int) (a : Int) : Bool := if l.length = 0 then a == p.y else hs l a
def accS (p : Pa) (s : Sc) (part a : Int) : Bool := sval p s && decide (0 ≤ part ∧ part < p.l.length) && ((gp p.l part.toNat).k == 2) && acc (gp p.l part.toNat) (gk s.ks part.toNat).l a
theorem acc_neg {p : Pa} {s : Sc} (h : SOk p s) (i : Nat) (hi : i < p.l.length) (hk : (gp p.l i).k = 2) (a : Int) (ha : a < 0) : acc (gp p.l i) (gk s.ks i).l a = false := by
  unfold acc
  split
  · have := (vp_iff _).1 (h.part i hi)
    rw [beq_eq_false_iff_ne]
    omega
  · apply hs_no
    intro j hj
    have := h.key i hi j hj
    omega
/-- The mark of a choice part, or that a part is not marked. -/
def mk1 (p : Pt) (l : List Int) (a : Int) : Int := if p.k = 1 then -2 else if acc p l a = true then p.m else if a = -1 then -1 else 0
def inR (p : Pt) (a : Int) : Bool := decide (p.k = 2 → -2 ≤ a ∧ a < p.n)
def mks (p : Pa) (s : Sc) (an : List Int) : Nat → List Int
  | 0 => []
  | k + 1 => mks p s an k ++ [mk1 (gp p.l k) (gk s.ks k).l (gi an k)]
theorem mks_len (p : Pa) (s : Sc) (an : List Int) : ∀ k, (mks p s an k).length = k
  | 0 => rfl
  | k + 1 => by rw [mks, List.length_append, mks_len p s an k]; rfl
theorem mks_at (p : Pa) (s : Sc) (an : List Int) : ∀ k i, i < k → gi (mks p s an k) i = mk1 (gp p.l i) (gk s.ks i).l (gi an i)
  | k + 1, i, hi => by
    rw [mks]
    by_cases h : i < k
    · rw [gi_left _ _ _ (by rw [mks_len]; exact h), mks_at p s an k i h]
    · obtain rfl : i = k := by omega
      have := gi_snoc (mks p s an i) (mk1 (gp p.l i) (gk s.ks i).l (gi an i))
      rwa [mks_len] at this
def allR (p : Pa) (an : List Int) : Bool := allI p.l.length fun i => inR (gp p.l i) (gi an i)
/-- The marks of the choice parts, and the error. -/
def clo (p : Pa) (s : Sc) (an : List Int) : List Int × Int :=
  if sval p s = true then
    if an.length = p.l.length then
      if allR p an = true then (mks p s an p.l.length, 0) else ([], 2)
    else ([], 22)
  else ([], 1)
section
variable {p : Pa} {s : Sc} {an : List Int}
theorem clo_1 (h : sval p s = false) : clo p s an = ([], 1) := by unfold clo; rw [if_neg (by simp [h])]
theorem clo_22 (h : sval p s = true) (h1 : ¬ an.length = p.l.length) : clo p s an = ([], 22) := by unfold clo; rw [if_pos h, if_neg h1]
theorem clo_2 (h : sval p s = true) (h1 : an.length = p.l.length) (i : Nat) (hi : i < p.l.length) (h2 : inR (gp p.l i) (gi an i) = false) : clo p s an = ([], 2) := by unfold clo; rw [if_pos h, if_pos h1, if_neg (by unfold allR; rw [allI_false i hi h2]; simp)]
theorem clo_0 (h : sval p s = true) (h1 : an.length = p.l.length) (h2 : ∀ i, i < p.l.length → inR (gp p.l i) (gi an i) = true) : clo p s an = (mks p s an p.l.length, 0) := by unfold clo; rw [if_pos h, if_pos h1, if_pos (show allR p an = true from allI_true h2)]
end
theorem clo_len (p : Pa) (s : Sc) (an : List Int) (h : p.l.length ≤ 1000) : (clo p s an).1.length ≤ 1000 := by
  unfold clo
  split
  · split
    · split
      · rw [mks_len]; exact h
      · simp
    · simp
  · simp
/-- Whether a mark is permitted. -/
def perm (p : Pt) (m : Int) : Bool := if p.k = 2 then decide (m = -1 ∨ m = 0 ∨ m = p.m) else decide (-1 ≤ m ∧ m ≤ p.m)
def permS (p : Pa) (s : Sc) (part m : Int) : Bool := sval p s && decide (0 ≤ part ∧ part < p.l.length) && perm (gp p.l part.toNat) m
def mrAt (p : Pa) (s : Sc) (ms : List Int) (i : Nat) : Bool := decide (gi s.wd i ≠ 0) || perm (gp p.l i) (gi ms i)
def mrk (p : Pa) (s : Sc) (ms : List Int) : Bool := sval p s && decide (ms.length = p.l.length) && allI p.l.length (mrAt p s ms)
section
variable {p : Pa} {s : Sc} {ms : List Int}
theorem mrk_no1 (h : sval p s = false) : mrk p s ms = false := by unfold mrk; rw [h]; rfl
theorem mrk_no2 (h : ¬ ms.length = p.l.length) : mrk p s ms = false := by unfold mrk; simp [h]
theorem mrk_no3 (i : Nat) (hi : i < p.l.length) (h : mrAt p s ms i = false) : mrk p s ms = false := by unfold mrk; rw [allI_false i hi h]; simp
theorem mrk_yes (h : sval p s = true) (h1 : ms.length = p.l.length) (h2 : ∀ i, i < p.l.length → mrAt p s ms i = true) : mrk p s ms = true := by unfold mrk; rw [h, allI_true h2]; simp [h1]
theorem mrk_ok (h : mrk p s ms = true) : sval p s = true ∧ ms.length = p.l.length ∧ ∀ i, i < p.l.length → mrAt p s ms i = true := by
  unfold mrk at h
  simp only [Bool.and_eq_true, decide_eq_true_eq] at h
  exact ⟨h.1.1, h.1.2, fun i hi => allI_at h.2 i hi⟩
end
theorem perm_bd {p : Pt} {m : Int} (hp : Tm.vp p = true) (h : perm p m = true) : -1 ≤ m ∧ m ≤ p.m := by
  have := (vp_iff p).1 hp
  unfold perm at h
  split at h
  · have := of_decide_eq_true h; omega
  · have := of_decide_eq_true h; omega
/-- What a part adds to the total. -/
def tv (p : Pt) (w m : Int) : Int := if w = 1 then p.m else if w = 2 then 0 else max m 0
def tsum (p : Pa) (s : Sc) (ms : List Int) : Nat → Int
  | 0 => 0
  | k + 1 => tsum p s ms k + tv (gp p.l k) (gi s.wd k) (gi ms k)
/-- What a part adds to the maximum. -/
def mv (p : Pt) (w : Int) : Int := if w = 2 then 0 else p.m
def msum (p : Pa) (s : Sc) : Nat → Int
  | 0 => 0
  | k + 1 => msum p s k + mv (gp p.l k) (gi s.wd k)
theorem tv_bd {p : Pa} {s : Sc} {ms : List Int} (h : mrk p s ms = true) (i : Nat) (hi : i < p.l.length) : 0 ≤ tv (gp p.l i) (gi s.wd i) (gi ms i) ∧ tv (gp p.l i) (gi s.wd i) (gi ms i) ≤ mv (gp p.l i) (gi s.wd i) ∧ mv (gp p.l i) (gi s.wd i) ≤ 40 := by
  obtain ⟨h1, h2, h3⟩ := mrk_ok h
  have hs := sval_ok h1
  have hp := hs.part i hi
  have hv := (vp_iff _).1 hp
  have hk := hs.knd i hi
  have hm := h3 i hi
  unfold mrAt at hm
  simp only [Bool.or_eq_true, decide_eq_true_eq] at hm
  unfold tv mv
  by_cases e1 : gi s.wd i = 1
  · rw [if_pos e1, if_neg (by omega)]; omega
  · by_cases e2 : gi s.wd i = 2
    · rw [if_neg e1, if_pos e2, if_pos e2]; omega
    · rw [if_neg e1, if_neg e2, if_neg e2]
      rcases hm with hm | hm
      · omega
      · have := perm_bd hp hm; omega
theorem tsum_bd {p : Pa} {s : Sc} {ms : List Int} (h : mrk p s ms = true) : ∀ k, k ≤ p.l.length → 0 ≤ tsum p s ms k ∧ tsum p s ms k ≤ msum p s k ∧ msum p s k ≤ 40 * k
  | 0, _ => by simp [tsum, msum]
  | k + 1, hk => by
    have ih := tsum_bd h k (by omega)
    have := tv_bd h k (by omega)
    unfold tsum msum
    omega
theorem mv_bd {p : Pa} {s : Sc} (h : SOk p s) (i : Nat) (hi : i < p.l.length) : 0 ≤ mv (gp p.l i) (gi s.wd i) ∧ mv (gp p.l i) (gi s.wd i) ≤ 40 := by
  have hv := (vp_iff _).1 (h.part i hi)
  unfold mv
  split <;> omega
theorem msum_bd {p : Pa} {s : Sc} (h : SOk p s) : ∀ k, k ≤ p.l.length → 0 ≤ msum p s k ∧ msum p s k ≤ 40 * k
  | 0, _ => by simp [msum]
  | k + 1, hk => by
    have ih := msum_bd h k (by omega)
    have := mv_bd h k (by omega)
    unfold msum
    omega
/-- The total and the error. -/
def ttl (p : Pa) (s : Sc) (ms : List Int) : Int × Int :=
  if sval p s = true then
    if ms.length = p.l.length then
      if mrk p s ms = true then (tsum p s ms p.l.length, 0) else (0, 8)
    else (0, 22)
  else (0, 1)
section
variable {p : Pa} {s : Sc} {ms : List Int}
theorem ttl_1 (h : sval p s = false) : ttl p s ms = (0, 1) := by unfold ttl; rw [if_neg (by simp [h])]
theorem ttl_22 (h : sval p s = true) (h1 : ¬ ms.length = p.l.length) : ttl p s ms = (0, 22) := by unfold ttl; rw [if_pos h, if_neg h1]
theorem ttl_8 (h : sval p s = true) (h1 : ms.length = p.l.length) (h2 : mrk p s ms = false) : ttl p s ms = (0, 8) := by unfold ttl; rw [if_pos h, if_pos h1, if_neg (by simp [h2])]
theorem ttl_0 (h : mrk p s ms = true) : ttl p s ms = (tsum p s ms p.l.length, 0) := by obtain ⟨h1, h2, _⟩ := mrk_ok h; unfold ttl; rw [if_pos h1, if_pos h2, if_pos h]
end
/-- The maximum and the error. -/
def mxm (p : Pa) (s : Sc) : Int × Int := if sval p s = true then (msum p s p.l.length, 0) else (0, 1)
/-- The lists of keys. -/
def kls (ks : List Ky) : List (List Int) := ks.map Ky.l
theorem kls_at {ks ks' : List Ky} (h : kls ks = kls ks') : ks.length = ks'.length ∧ ∀ i, (gk ks i).l = (gk ks' i).l := by
  constructor
  · have := congrArg List.length h; simpa [kls] using this
  · intro i
    have := congrArg (fun l => l[i]?) h
    simp only [kls, List.getElem?_map] at this
    unfold gk
    rw [List.getD_eq_getElem?_getD, List.getD_eq_getElem?_getD]
    cases e : ks[i]? <;> cases e' : ks'[i]? <;> rw [e, e'] at this <;> simp at this ⊢
    exact this
/-- The error of a withdrawal. -/
def wde (p : Pa) (s : Sc) (part kind : Int) : Int :=
  if sval p s = true then if 0 ≤ part ∧ part < p.l.length then if knd kind = true then 0 else 2 else 4 else 1
end Go.Proofs.Ytokddjohdodkmaa.Tm
