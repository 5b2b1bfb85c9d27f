/- The memory of Place between two candidates; what its end means. No walk. -/
import Derived.Test.YtcidpgjeddogmaaVS
import Derived.Test.YtcidpgjeddogmaaSrt
import Derived.Sort.OwnSortedInts
import Derived.WalkKit
import Derived.WalkSpells
import Derived.WalkLawsBesides
import Derived.Deep.QuietTactic
import Derived.BigQuiet
import Derived.Deep.Draws
import Derived.Deep.AppendLies
import Derived.Laws.OwnMore
import Derived.Laws.BytesArg
import Derived.Lib.Hide
import Derived.Deep.LoopGhost
namespace Go.Proofs.Ytcidpgjeddogmaa.Pl
open Go.RowKit
open Go.Proofs.Ytcidpgjeddogmaa.Mw
open Go.Proofs.Ytcidpgjeddogmaa.St
set_option linter.unusedVariables false
set_option linter.unusedSimpArgs false

theorem cnt_filter (q : List Int) (x : Int) : ∀ n, cnt q x n = ((List.range n).filter fun j => decide (gi q j = x)).length
  | 0 => rfl
  | n + 1 => by
    rw [List.range_succ, List.filter_append, List.length_append, ← cnt_filter q x n]
    show cnt q x n + (if gi q n = x then 1 else 0) = _
    by_cases e : gi q n = x
    · rw [if_pos e]; simp [List.filter_cons, e]
    · rw [if_neg e]; simp [List.filter_cons, e]
/-- The rooms of all candidates. -/
def rmL (q : Nat → Int) (n : Nat) : List Int := (List.range n).map q
theorem rmL_len (q : Nat → Int) (n : Nat) : (rmL q n).length = n := by unfold rmL; simp
theorem rmL_at (q : Nat → Int) {n i : Nat} (h : i < n) : gi (rmL q n) i = q i := by
  have h1 := gi_lt (rmL q n) i (by rw [rmL_len]; exact h)
  unfold rmL at h1
  rw [List.getElem?_map, List.getElem?_range h] at h1
  exact (Option.some.inj h1).symm
/-- All have found places: they are right. -/
theorem Out.done {rs : List Rm} {ns : List Nd} {v : Int} {m : Nat → List Nat} {q : Nat → Int} (h : Out rs ns ns.length m q) (hc : chk rs ns v = 0) (hsq : ∀ r, r < rs.length → 0 ≤ (ge rs r).r * (ge rs r).c) : asg rs ns v (rmL q ns.length) = (asl rs ns v (rmL q ns.length) ns.length, 0) := by
  have hat : ∀ i, i < ns.length → ∃ r, r < rs.length ∧ i ∈ m r ∧ q i = (r : Int) ∧ suR rs ns r i = true := fun i hi => by
    obtain ⟨r, hr, _, hx⟩ := (h.is i).2 hi
    have := (h.ok r hr rfl).1 i hx
    exact ⟨r, hr, hx, this.2.2, this.2.1⟩
  refine asg_0 hc (rmL_len q _) (fun i hi => ?_) (fun i hi => ?_) (fun i hi => ?_)
  · rw [rmL_len] at hi
    obtain ⟨r, hr, _, hq, _⟩ := hat i hi
    unfold inB
    rw [ins_iff, rmL_at q hi, hq]; omega
  · rw [rmL_len] at hi
    obtain ⟨r, hr, _, hq, hs⟩ := hat i hi
    unfold stB rmI
    rw [rmL_at q hi, hq, Int.toNat_natCast]; exact hs
  · rw [rmL_len] at hi
    obtain ⟨r, hr, _, hq, hs⟩ := hat i hi
    have h1 := cnt_lt (rmL q ns.length) hi
    have h2 : cnt (rmL q ns.length) (gi (rmL q ns.length) i) ns.length ≤ (m r).length := by
      rw [cnt_filter]
      refine nodup_len (List.nodup_iff_pairwise_ne.2 (List.Pairwise.filter _ (List.nodup_iff_pairwise_ne.1 List.nodup_range))) fun x hx => ?_
      obtain ⟨hx1, hx2⟩ := List.mem_filter.1 hx
      have hx1 := List.mem_range.1 hx1
      rw [decide_eq_true_eq, rmL_at q hx1, rmL_at q hi, hq] at hx2
      obtain ⟨r', hr', hm', hq', _⟩ := hat x hx1
      rw [hx2] at hq'
      obtain rfl : r = r' := by omega
      exact hm'
    have h3 := (h.ok r hr rfl).2.2
    have h4 := hsq r hr
    unfold fuB rmI
    rw [decide_eq_true_eq]
    have h5 : (ge rs (gi (rmL q ns.length) i).toNat) = ge rs r := by rw [rmL_at q hi, hq, Int.toNat_natCast]
    rw [h5]
    unfold capR at h3
    omega
/-- The blocks apart from the one that says who is visited. -/
def Bx.al (K : Bx) : List Nat := [K.gA, K.gN, K.gR, K.gM, K.gV, K.gF, K.m, K.q]
/-- What stands where, between two candidates. -/
structure InvP (R N : Nat) (sA sB : Value) (cq : Nat) (w0 : World) (K : Bx) (hd : Nat → Value) (w : World) (m : Nat → List Nat) (q : Nat → Int) : Prop where
  bA : Bk w K.gA 25 #[sA]
  bN : Bk w K.gN 27 #[sB]
  bR : Bk w K.gR 22 #[.slice (some ⟨K.q, 0, none⟩) N cq]
  bM : Bk w K.gM 73 #[.slice (some ⟨K.m, 0, none⟩) R R]
  bV : ∃ x, Bk w K.gV 74 #[x]
  bF : Bk w K.gF 58 #[.func (.func 51) #[] K.ptrs]
  rM : Bk w K.m 22 (rng R hd)
  rQ : Bk w K.q 3 (rng N fun j => .int .i64 (q j))
  own : ∀ r, r < R → w.ownsRow w0.heap.size 3 1 (hd r) (m r).length ((m r).map nat64)
  apart : ∀ r, r < R → ∀ b, (hd r).ownBlock = some b → b ∉ K.al
  dis : ∀ r, r < R → ∀ p, p < R → r ≠ p → ∀ b, (hd r).ownBlock = some b → (hd p).ownBlock ≠ some b
  one : K.gR ≠ K.m
  low : ∀ b, b ∈ K.al → w0.heap.size ≤ b
  bel : Below w0.heap.size w0 w
section
variable {R N : Nat} {sA sB : Value} {cq : Nat} {w0 : World} {K : Bx} {hd : Nat → Value} {w w' : World} {S : Sx} {m : Nat → List Nat} {q : Nat → Int}
theorem al_all {K : Bx} {b : Nat} (h : b ∈ K.al) : b ∈ K.all := by
  simp only [Bx.al, Bx.all, List.mem_cons, List.not_mem_nil, or_false] at h ⊢
  rcases h with h | h | h | h | h | h | h | h <;> simp [h]
theorem InvH.drop (h : InvH R N sA sB cq w0 K hd w S) : InvP R N sA sB cq w0 K hd w S.mem S.rm where
  bA := h.bA
  bN := h.bN
  bR := h.bR
  bM := h.bM
  bV := ⟨_, h.bV⟩
  bF := h.bF
  rM := h.rM
  rQ := h.rQ
  own := h.own
  apart r hr b hb hx := h.apart r hr b hb (al_all hx)
  dis := h.dis
  one := h.one
  low b hb := h.low b (al_all hb)
  bel := h.bel
/-- A new list of rooms that are visited. -/
theorem InvP.vis (h : InvP R N sA sB cq w0 K hd w m q) (hb : Below w.heap.size w w') (hV : Bk w' w.heap.size 4 (rng R fun _ => .bool false)) :
    InvH R N sA sB cq w0 { K with v := w.heap.size } hd (w'.setCell ⟨K.gV, 0, none⟩ (.slice (some ⟨w.heap.size, 0, none⟩) R R)) ⟨fun _ => false, m, q⟩ := by
  obtain ⟨x, hbV⟩ := h.bV
  have hown : ∀ r, r < R → w'.ownsRow w0.heap.size 3 1 (hd r) (m r).length ((m r).map nat64) := fun r hr => own_old (h.own r hr) hb
  have hVl : K.gV < w.heap.size := hbV.lt
  refine { bA := (h.bA.old hb).far ?_ _, bN := (h.bN.old hb).far ?_ _, bR := (h.bR.old hb).far ?_ _, bM := (h.bM.old hb).far ?_ _, bV := ?_, bF := (h.bF.old hb).far ?_ _, rV := hV.far ?_ _, rM := (h.rM.old hb).far ?_ _, rQ := (h.rQ.old hb).far ?_ _, own := fun p hp => ?_, apart := fun r hr b hbb hx => ?_, dis := h.dis, one := h.one, low := fun b hbb => ?_, bel := (bl_trans h.bel hb).setCell (h.low _ (by simp [Bx.al])) _ }
  · exact h.bA.ne hbV (by decide)
  · exact h.bN.ne hbV (by decide)
  · exact h.bR.ne hbV (by decide)
  · exact h.bM.ne hbV (by decide)
  · exact (hbV.old hb).set 0 _
  · exact h.bF.ne hbV (by decide)
  · show w.heap.size ≠ K.gV
    omega
  · exact h.rM.ne hbV (by decide)
  · exact h.rQ.ne hbV (by decide)
  · exact (hown p hp).kept (row := some K.gV) (gb_set (gb_refl w' _) (.inl rfl) _) (.inr fun e => h.apart p hp K.gV e (by simp [Bx.al]))
  · have h1 : b < w.heap.size := ((h.own r hr).lt b hbb).2
    have h2 := h.apart r hr b hbb
    simp only [Bx.al, Bx.all, List.mem_cons, List.not_mem_nil, or_false, not_or] at h2 hx
    omega
  · have h1 := h.low
    have h2 := h.bel.size
    simp only [Bx.al, Bx.all, List.mem_cons, List.not_mem_nil, or_false] at h1 hbb
    rcases hbb with e | e | e | e | e | e | e | e | e
    · exact h1 b (by simp [e])
    · exact h1 b (by simp [e])
    · exact h1 b (by simp [e])
    · exact h1 b (by simp [e])
    · exact h1 b (by simp [e])
    · exact h1 b (by simp [e])
    · omega
    · exact h1 b (by simp [e])
    · exact h1 b (by simp [e])
end
theorem nat64_one (l : List Nat) : ∀ u ∈ l.map nat64, u.oneCell' = true := enc_one l fun a => rfl
/-- Appending a slice of numbers, nil or not, to a row of the call's own. -/
theorem app_nat {w : World} {base : Nat} {v : Value} {xs l : List Nat} {A : Option Addr} {c : Nat} (hown : w.ownsRow base 3 1 v xs.length (xs.map nat64)) (hr : RdE nat64 w A l) (h1 : xs.length + l.length ≤ 100000) (hb : base ≤ w.heap.size) :
    ∃ v' w', (Builtin.append_ #[22, 22] 22 #[v, .slice A l.length c]).run Try.prog w = .ok v' w' ∧ w'.ownsRow base 3 1 v' (xs ++ l).length ((xs ++ l).map nat64) ∧ w.grownBy w' v.ownBlock := by
  obtain ⟨i0, hi0, hz0, hz1, hz2⟩ := info_parts infoInt
  rcases A with _ | a
  · obtain rfl := Mw.rde_nil hr
    refine ⟨v, w, ?_, by simpa using hown, gb_refl _ _⟩
    rcases hown.2 with ⟨rfl, h0⟩ | ⟨g, cap, cur, rfl, hg, hh, hc, hm, _⟩
    · simp [Builtin.append_, run_underlying Try.underlying22, sizeOf, typeInfo, hi0, Builtin.lenOf, Builtin.firstCells]
    · simp [Builtin.append_, run_underlying Try.underlying22, sizeOf, typeInfo, hi0, Builtin.lenOf, Builtin.firstCells, hc, storeCells]
  · obtain ⟨v', w', h2, h3, h4, -, -⟩ := run_append_own_at (P := Try.prog) (w := w) base 22 22 3 i0 (.int .i64 0) 1 8 Try.underlying22 hi0 hz0 hz1 hz2 rfl (by decide) v xs.length (xs.map nat64) hown a l.length c (l.map nat64) (by simp) (Mw.rde_news hr) (nat64_one l) (by simp only [maxLen]; omega) (by omega) hb
    exact ⟨v', w', h2, by rw [List.map_append, List.length_append]; exact h3, h4⟩
/-- Sorting a row of the call's own that is not empty. -/
theorem sort_own {w : World} {base : Nat} {v : Value} {l : List Nat} (hown : w.ownsRow base 3 1 v l.length (l.map nat64)) (h0 : 0 < l.length) (h1 : l.length ≤ 100000) :
    ∃ g c, v = .slice (some ⟨g, 0, none⟩) l.length c ∧ base ≤ g ∧ Calls Try.prog 52 #[.slice (some ⟨g, 0, none⟩) l.length c] w fun e w' => e = .returned (.tuple #[]) ∧ w'.ownsRow base 3 1 (.slice (some ⟨g, 0, none⟩) l.length c) l.length (((l.map fun x : Nat => (x : Int)).mergeSort fun x y => decide (x ≤ y)).map (Value.int .i64)) ∧ w.grownBy w' (some g) := by
  rcases hown.2 with ⟨_, h2⟩ | ⟨g, cap, cur, rfl, hg, hh, hc, hm, hs, ht⟩
  · omega
  · refine ⟨g, cap, rfl, hg, ?_⟩
    have hm2 : (l.map nat64) = (l.map fun x : Nat => (x : Int)).map (Value.int .i64) := by rw [List.map_map]; rfl
    have hH := holds_of_blockI (ss := l.map fun x : Nat => (x : Int)) hh (by rw [List.length_map, ← hm2]; simpa using ht)
    have h := Try.slices_Sort_int g 0 cap (l.map fun x : Nat => (x : Int)) w hH ((Array.getElem?_eq_some_iff.1 hh).1) (by simp; omega)
    rw [List.length_map] at h
    refine h.mono ?_
    rintro e w' ⟨rfl, n, os, rfl⟩
    have hl : ((l.map fun x : Nat => (x : Int)).mergeSort fun x y => decide (x ≤ y)).length = (l.map fun x : Nat => (x : Int)).length := List.length_mergeSort _
    have h5 := ownsRow_sortedI (n := n) (os := os) hl hg hh (by simpa using hc) hm (by simpa using hs)
    rw [List.length_map] at h5
    exact ⟨rfl, h5, grownBy_sortedI _⟩
theorem sorted_gi (l : List Int) : ∀ j, j + 1 < (l.mergeSort fun x y => decide (x ≤ y)).length → gi (l.mergeSort fun x y => decide (x ≤ y)) j ≤ gi (l.mergeSort fun x y => decide (x ≤ y)) (j + 1) := fun j hj => by
  have hp := List.pairwise_mergeSort (le := fun x y : Int => decide (x ≤ y)) (fun a b c h1 h2 => by simp at *; omega) (fun a b => by simp; omega) l
  have h1 := List.pairwise_iff_getElem.1 hp j (j + 1) (by omega) hj (by omega)
  have e1 := gi_lt (l.mergeSort fun x y => decide (x ≤ y)) j (by omega)
  have e2 := gi_lt (l.mergeSort fun x y => decide (x ≤ y)) (j + 1) hj
  rw [List.getElem?_eq_getElem (by omega)] at e1 e2
  rw [← Option.some.inj e1, ← Option.some.inj e2]
  simpa using h1
end Go.Proofs.Ytcidpgjeddogmaa.Pl
