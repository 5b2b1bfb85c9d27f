/- Plain mathematics: one more accepted option raises exactly the marks of those who have chosen it; slices of slices in which one is replaced. No program in sight. -/
import Derived.Test.YtokddjohdodkmaaBA
namespace Go.Proofs.Ytokddjohdodkmaa.Tm
open Go.RowKit Go.Proofs.Ytokddjohdodkmaa.Mw
set_option linter.unusedVariables false
set_option linter.unusedSimpArgs false

/-- The options up to q that are accepted, and o. -/
def wk (p : Pa) (s : Sc) (j : Nat) (o : Int) : Nat → List Int
  | 0 => []
  | q + 1 => if (q : Int) = o ∨ accS p s (j : Int) (q : Int) = true then wk p s j o q ++ [(q : Int)] else wk p s j o q
section
variable {p : Pa} {s : Sc} {j : Nat} {o : Int}
theorem wk_yes1 {q : Nat} (h : (q : Int) = o) : wk p s j o (q + 1) = wk p s j o q ++ [(q : Int)] := by rw [wk, if_pos (.inl h)]
theorem wk_yes2 {q : Nat} (h : accS p s (j : Int) (q : Int) = true) : wk p s j o (q + 1) = wk p s j o q ++ [(q : Int)] := by rw [wk, if_pos (.inr h)]
theorem wk_no {q : Nat} (h : ¬ (q : Int) = o) (h2 : accS p s (j : Int) (q : Int) = false) : wk p s j o (q + 1) = wk p s j o q := by rw [wk, if_neg (by simp [h, h2])]
theorem wk_ks : ∀ q, KS (wk p s j o q) q
  | 0 => ks_nil
  | q + 1 => by
    unfold wk
    split
    · exact ks_snoc (wk_ks q)
    · exact ks_step (wk_ks q)
theorem wk_mem (v : Int) : ∀ q : Nat, v ∈ wk p s j o q ↔ 0 ≤ v ∧ v < q ∧ (v = o ∨ accS p s (j : Int) v = true)
  | 0 => by simp [wk]; omega
  | q + 1 => by
    unfold wk
    have ih := wk_mem v q
    split
    · rename_i h
      rw [List.mem_append, ih, List.mem_singleton]
      constructor
      · rintro (⟨a, b, c⟩ | rfl)
        · exact ⟨a, by omega, c⟩
        · exact ⟨by omega, by omega, h⟩
      · rintro ⟨a, b, c⟩
        by_cases e : v = q
        · exact .inr e
        · exact .inl ⟨a, by omega, c⟩
    · rename_i h
      rw [ih]
      constructor
      · rintro ⟨a, b, c⟩; exact ⟨a, by omega, c⟩
      · rintro ⟨a, b, c⟩
        by_cases e : v = q
        · subst e; exact absurd c h
        · exact ⟨a, by omega, c⟩
end
theorem gk_set {l : List Ky} {j : Nat} {k : Ky} (hj : j < l.length) (i : Nat) : gk (l.set j k) i = if i = j then k else gk l i := by
  unfold gk
  rw [List.getD_eq_getElem?_getD, List.getD_eq_getElem?_getD, List.getElem?_set]
  by_cases e : j = i
  · subst e; rw [if_pos rfl, if_pos hj, if_pos rfl]; rfl
  · rw [if_neg e, if_neg (fun x => e x.symm)]
/-- The scheme with other keys of one part. -/
def sky (s : Sc) (K : Option Addr) (c j : Nat) (k : Ky) : Sc := ⟨K, c, s.ks.set j k, s.W, s.cw, s.wd⟩
section
variable {p : Pa} {s : Sc} {an : List Int} {K : Option Addr} {c j : Nat} {k : Ky} {o : Int} {N : Nat}
theorem sky_ok (h : SOk p s) (hj : j < p.l.length) (hk2 : (gp p.l j).k = 2) (hN : (gp p.l j).n = N) (hk : k.l = wk p s j o N) : SOk p (sky s K c j k) := by
  refine ⟨h.vp, by show (s.ks.set j k).length = _; rw [List.length_set]; exact h.lk, h.lw, fun i hi => ?_⟩
  have ha := h.at_ i hi
  unfold svAt at ha ⊢
  rw [Bool.and_eq_true] at ha ⊢
  refine ⟨?_, ha.2⟩
  show kOk (gp p.l i).n (gk (s.ks.set j k) i).l = true
  rw [gk_set (by rw [h.lk]; exact hj)]
  by_cases e : i = j
  · subst e
    rw [if_pos rfl, hk]
    exact ks_ok (wk_ks N) (by omega)
  · rw [if_neg e]; exact ha.1
theorem sky_acc (h : SOk p s) (hj : j < p.l.length) (hk2 : (gp p.l j).k = 2) (hN : (gp p.l j).n = N) (hk : k.l = wk p s j o N) (ho : 0 ≤ o ∧ o < N) (a : Int) (ha : a < N) :
    acc (gp p.l j) k.l a = (decide (a = o) || acc (gp p.l j) (gk s.ks j).l a) := by
  have hne : ¬ k.l.length = 0 := by
    intro e
    have : o ∈ k.l := by rw [hk]; exact (wk_mem o N).2 ⟨ho.1, ho.2, .inl rfl⟩
    rw [List.length_eq_zero_iff.1 e] at this
    cases this
  rw [acc_1 hne, Bool.eq_iff_iff]
  unfold hs
  rw [decide_eq_true_eq, Bool.or_eq_true, decide_eq_true_eq, hk, wk_mem, accS_y h.val hj hk2]
  constructor
  · rintro ⟨_, _, x⟩; exact x
  · intro x
    have h0 : 0 ≤ a := by
      rcases x with rfl | x
      · exact ho.1
      · rcases Int.lt_or_le a 0 with h1 | h1
        · rw [acc_neg h j hj hk2 a h1] at x; cases x
        · exact h1
    exact ⟨h0, ha, x⟩
theorem sky_mark (h : SOk p s) (hj : j < p.l.length) (hk2 : (gp p.l j).k = 2) (hN : (gp p.l j).n = N) (hk : k.l = wk p s j o N) (ho : 0 ≤ o ∧ o < N) (hal : an.length = p.l.length) (hag : ∀ i, i < p.l.length → PG p.l i (gi an i)) (i : Nat) (hi : i < p.l.length) :
    gi (mks p (sky s K c j k) an p.l.length) i = if i = j ∧ gi an i = o then (gp p.l i).m else gi (mks p s an p.l.length) i := by
  rw [mks_at _ _ _ _ i hi, mks_at _ _ _ _ i hi]
  show mk1 (gp p.l i) (gk (s.ks.set j k) i).l (gi an i) = _
  rw [gk_set (by rw [h.lk]; exact hj)]
  by_cases e : i = j
  · subst e
    rw [if_pos rfl]
    have hR := hag i hi (h.part i hi)
    have hR2 := of_decide_eq_true hR hk2
    have hA := sky_acc (k := k) h hi hk2 hN hk ho (gi an i) (by omega)
    have hn1 : ¬ (gp p.l i).k = 1 := by omega
    have L : mk1 (gp p.l i) k.l (gi an i) = if (decide (gi an i = o) || acc (gp p.l i) (gk s.ks i).l (gi an i)) = true then (gp p.l i).m else if gi an i = -1 then -1 else 0 := by unfold mk1; rw [if_neg hn1, hA]
    have R : mk1 (gp p.l i) (gk s.ks i).l (gi an i) = if acc (gp p.l i) (gk s.ks i).l (gi an i) = true then (gp p.l i).m else if gi an i = -1 then -1 else 0 := by unfold mk1; rw [if_neg hn1]
    rw [L, R]
    by_cases e2 : gi an i = o
    · rw [if_pos (show i = i ∧ gi an i = o from ⟨rfl, e2⟩), if_pos (by simp [e2])]
    · have e3 : decide (gi an i = o) = false := decide_eq_false e2
      rw [if_neg (show ¬ (i = i ∧ gi an i = o) from fun x => e2 x.2), e3, Bool.false_or]
  · rw [if_neg e, if_neg (fun x => e x.1)]
end
section
variable {w w' : World} {K : Option Addr} {ks : List Ky}
/-- A slice of slices whose own memory is kept, and whose slices read as before. -/
theorem RdK.mix {r : Nat} (h : RdK w K ks) (hg : w.grownBy w' (some r)) (hA : Away r K) (h' : ∀ i, i < ks.length → RdI w' .i64 (gk ks i).A (gk ks i).l) : RdK w' K ks := fun i hi => by
  obtain ⟨b, off, e, hlt, hc, _⟩ := h i hi
  exact ⟨b, off, e, Nat.lt_of_lt_of_le hlt hg.size, (World.cell?_of_block (a := ⟨b, off + i, none⟩) (hg.block b hlt (by simpa using hA _ e))).trans hc, h' i hi⟩
/-- A store of one slice into a slice of slices. -/
theorem rdk_set {g : Nat} (h : RdK w (some ⟨g, 0, none⟩) ks) {j : Nat} (hj : j < ks.length) {k : Ky} (hk : RdI (w.setCell ⟨g, j, none⟩ (kv k)) .i64 k.A k.l) (h' : ∀ i, i < ks.length → RdI (w.setCell ⟨g, j, none⟩ (kv k)) .i64 (gk ks i).A (gk ks i).l) : RdK (w.setCell ⟨g, j, none⟩ (kv k)) (some ⟨g, 0, none⟩) (ks.set j k) := fun i hi => by
  have hi' : i < ks.length := by simpa using hi
  obtain ⟨b, f, e, hlt, hc, hr⟩ := h i hi'
  cases e
  rw [Nat.zero_add] at hc
  refine ⟨g, 0, rfl, by simpa using hlt, ?_, ?_⟩
  · rw [gk_set hj, Nat.zero_add]
    by_cases e : i = j
    · subst e
      rw [if_pos rfl]
      exact World.cell?_setCell_same w ⟨g, i, none⟩ (kv k) hc
    · rw [if_neg e, World.cell?_setCell_other w ⟨g, j, none⟩ ⟨g, i, none⟩ _ (fun x => by injection x with _ x _; omega)]
      exact hc
  · rw [gk_set hj]
    by_cases e : i = j
    · subst e; rw [if_pos rfl]; exact hk
    · rw [if_neg e]; exact h' i hi'
theorem sky_sc {s : Sc} {g c j : Nat} {k : Ky} (h : ScOk w' s) (hr : RdK w' (some ⟨g, 0, none⟩) (s.ks.set j k)) (hj : j < s.ks.length) (hk : k.l.length ≤ 1000) : ScOk w' (sky s (some ⟨g, 0, none⟩) c j k) :=
  ⟨hr, h.rw, by show (s.ks.set j k).length ≤ 1000; rw [List.length_set]; exact h.lk, h.lw, fun i hi => by
    have hi' : i < s.ks.length := by simpa [sky] using hi
    show (gk (s.ks.set j k) i).l.length ≤ 1000
    rw [gk_set hj]
    split
    · exact hk
    · exact h.le i hi'⟩
end
end Go.Proofs.Ytokddjohdodkmaa.Tm
