/- Plain mathematics: withdrawing one part changes totals and maxima by what is said; a paper and a scheme in memory. No program in sight. -/
import Derived.Test.YtokddjohdodkmaaHV
import Derived.Test.YtokddjohdodkmaaHO
import Derived.Test.YtokddjohdodkmaaHN
import Derived.Test.YtokddjohdodkmaaHW
namespace Go.Proofs.Ytokddjohdodkmaa.Tm
open Go.RowKit Go.Proofs.Ytokddjohdodkmaa.Mw
set_option linter.unusedVariables false
set_option linter.unusedSimpArgs false

theorem SOk.wd {p : Pa} {s s' : Sc} (h : SOk p s) (hk : kls s'.ks = kls s.ks) {j : Nat} {k : Int} (hj : j < p.l.length) (hkk : 0 ≤ k ∧ k ≤ 2) (hw : s'.wd = s.wd.set j k) : SOk p s' := by
  refine ⟨h.vp, (kls_at hk).1.trans h.lk, by rw [hw, List.length_set]; exact h.lw, fun i hi => ?_⟩
  have ha := h.at_ i hi
  unfold svAt at ha ⊢
  rw [(kls_at hk).2 i, hw, gi_set (by rw [h.lw]; exact hj)]
  rw [Bool.and_eq_true] at ha ⊢
  refine ⟨ha.1, ?_⟩
  by_cases e : i = j
  · rw [if_pos e]; exact decide_eq_true hkk
  · rw [if_neg e]; exact ha.2
theorem mrk_all {p : Pa} {s : Sc} {ms : List Int} (h : SOk p s) (hl : ms.length = p.l.length) (hm : ∀ i, i < p.l.length → PM p.l i (gi ms i)) : mrk p s ms = true :=
  mrk_yes h.val hl fun i hi => mr_yes2 (hm i hi (h.part i hi))
theorem credit_law {p : Pa} {s s1 : Sc} {ms : List Int} {j : Nat} (h : SOk p s) (h1 : SOk p s1) (hj : j < p.l.length) (h0 : gi s.wd j = 0) (hw : s1.wd = s.wd.set j 1) (hl : ms.length = p.l.length) (hm : ∀ i, i < p.l.length → PM p.l i (gi ms i)) :
    ∃ a b c : Int, ttl p s ms = (a, 0) ∧ ttl p s1 ms = (b, 0) ∧ mxm p s = (c, 0) ∧ mxm p s1 = (c, 0) ∧ b - a = (gp p.l j).m - max (gi ms j) 0 ∧ 0 ≤ a ∧ a ≤ 1000 ∧ 0 ≤ b ∧ b ≤ 1000 := by
  have m0 := mrk_all h hl hm
  have m1 := mrk_all h1 hl hm
  have hj' : j < s.wd.length := by rw [h.lw]; exact hj
  have hne : ∀ i, i ≠ j → gi s1.wd i = gi s.wd i := fun i hi => by rw [hw, gi_set hj', if_neg hi]
  have e1 : gi s1.wd j = 1 := by rw [hw, gi_set hj', if_pos rfl]
  have t1 := tsum_set (p := p) (ms := ms) hne p.l.length
  have t2 := msum_set (p := p) hne p.l.length
  rw [if_pos hj, e1, h0] at t1 t2
  have b0 := tsum_bd m0 p.l.length (Nat.le_refl _)
  have b1 := tsum_bd m1 p.l.length (Nat.le_refl _)
  have hlen := h.len
  refine ⟨_, _, msum p s p.l.length, ttl_0 m0, ttl_0 m1, if_pos h.val, ?_, ?_, by omega, by omega, by omega, by omega⟩
  · unfold mxm; rw [if_pos h1.val, t2]; simp [mv]
  · rw [t1]; simp only [tv]; simp; omega
theorem void_law {p : Pa} {s s1 : Sc} {ms : List Int} {j : Nat} (h : SOk p s) (h1 : SOk p s1) (hj : j < p.l.length) (h0 : gi s.wd j = 0) (hw : s1.wd = s.wd.set j 2) (hl : ms.length = p.l.length) (hm : ∀ i, i < p.l.length → PM p.l i (gi ms i)) :
    ∃ a b c d : Int, ttl p s ms = (a, 0) ∧ ttl p s1 ms = (b, 0) ∧ mxm p s = (c, 0) ∧ mxm p s1 = (d, 0) ∧ a - b = max (gi ms j) 0 ∧ c - d = (gp p.l j).m ∧ 0 ≤ a ∧ a ≤ 1000 ∧ 0 ≤ b ∧ b ≤ 1000 ∧ 0 ≤ c ∧ c ≤ 1000 ∧ 0 ≤ d ∧ d ≤ 1000 := by
  have m0 := mrk_all h hl hm
  have m1 := mrk_all h1 hl hm
  have hj' : j < s.wd.length := by rw [h.lw]; exact hj
  have hne : ∀ i, i ≠ j → gi s1.wd i = gi s.wd i := fun i hi => by rw [hw, gi_set hj', if_neg hi]
  have e1 : gi s1.wd j = 2 := by rw [hw, gi_set hj', if_pos rfl]
  have t1 := tsum_set (p := p) (ms := ms) hne p.l.length
  have t2 := msum_set (p := p) hne p.l.length
  rw [if_pos hj, e1, h0] at t1 t2
  have b0 := tsum_bd m0 p.l.length (Nat.le_refl _)
  have b1 := tsum_bd m1 p.l.length (Nat.le_refl _)
  have hlen := h.len
  refine ⟨_, _, _, _, ttl_0 m0, ttl_0 m1, if_pos h.val, if_pos h1.val, ?_, ?_, by omega, by omega, by omega, by omega, by omega, by omega, by omega, by omega⟩
  · rw [t1]; simp only [tv]; simp; omega
  · rw [t2]; simp only [mv]; simp; omega
/-- A paper and a scheme lie in memory, each in a block of its own. -/
structure PQ (w W : World) (g1 g2 : Nat) (p : Pa) (s : Sc) : Prop where
  pa : PaOk W p
  sc : ScOk W s
  b1 : Bk W g1 27 (pac p)
  b2 : Bk W g2 31 (scc s)
  be : Below w.heap.size w W
theorem PQ.old {w W W' : World} {g1 g2 : Nat} {p : Pa} {s : Sc} (h : PQ w W g1 g2 p s) (hb : Below W.heap.size W W') : PQ w W' g1 g2 p s := ⟨h.pa.old hb, h.sc.old hb, h.b1.old hb, h.b2.old hb, bl_trans h.be hb⟩
/-- The scheme with another withdrawal at one place. -/
def swd (s : Sc) (j : Nat) (k : Int) : Sc := ⟨s.K, s.ck, s.ks, s.W, s.cw, s.wd.set j k⟩
theorem PS2.store {w W : World} {tp g1 g2 : Nat} {p : Pa} {s : Sc} (h : PS2 w W tp g1 g2 p s) {b off : Nat} (hW : s.W = some ⟨b, off, none⟩) (hsw : ∀ a, s.W = some a → Away a.block s.K ∧ ∀ i, i < s.ks.length → Away a.block (gk s.ks i).A) (hp : Away b p.A) (n1 : g1 ≠ b) (n2 : g2 ≠ b) (hbw : w.heap.size ≤ b) {j : Nat} (hj : j < s.wd.length) (k : Int) :
    PQ w (W.setCell ⟨b, off + j, none⟩ (.int .i64 k)) g1 g2 p (swd s j k) := by
  have hg : W.grownBy (W.setCell ⟨b, off + j, none⟩ (.int .i64 k)) (some b) := gb_set (gb_refl _ _) (p := ⟨b, off + j, none⟩) (.inl rfl) _
  obtain ⟨s1, s2⟩ := hsw _ hW
  refine ⟨h.pa.grown hg hp, ⟨h.sc.rk.grown hg s1 s2, ?_, h.sc.lk, by show (s.wd.set j k).length ≤ 1000; rw [List.length_set]; exact h.sc.lw, h.sc.le⟩, h.b1.kept hg n1, ?_, bl_gb h.be hg hbw⟩
  · have hr := h.sc.rw
    show RdI _ .i64 s.W (s.wd.set j k)
    rw [hW] at hr ⊢
    exact rdi_set hr j hj k
  · have := h.b2.kept hg n2
    unfold swd
    simp only [scc, List.length_set] at this ⊢
    exact this
end Go.Proofs.Ytokddjohdodkmaa.Tm
