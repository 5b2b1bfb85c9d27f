/- Walks: ValidPaper and PaperTotal, of the program and of the reference. -/
import Derived.Test.YtokddjohdodkmaaTI
import Derived.WalkKit
import Derived.WalkSpells
import Derived.WalkLawsBesides
import Derived.Deep.QuietTactic
import Derived.BigQuiet
import Derived.Deep.Draws
import Derived.Deep.AppendLies
import Derived.Laws.OwnMore
import Derived.Laws.BytesArg
import Derived.Lib.Hide
import Derived.Deep.LoopGhost
namespace Go.Proofs.Ytokddjohdodkmaa.Tm
open Go.RowKit Go.Proofs.Ytokddjohdodkmaa.Mw
set_option linter.unusedVariables false
set_option linter.unusedSimpArgs false

/-- Which papers are valid. -/
def vh (c v : Int) (l : List Pt) : Bool := decide (0 ≤ c ∧ c ≤ 31 ∧ 0 ≤ v ∧ v < 4 ∧ 1 ≤ l.length ∧ l.length ≤ 24)
def vpp (c v : Int) (l : List Pt) : Bool := vh c v l && psOk l && decide (sm l l.length ≤ 200)
def ptot (c v : Int) (l : List Pt) : Int := if vpp c v l = true then sm l l.length else 0
theorem vpp_h {c v : Int} {l : List Pt} (h : vh c v l = false) : vpp c v l = false := by unfold vpp; rw [h]; rfl
theorem vpp_p {c v : Int} {l : List Pt} (h : psOk l = false) : vpp c v l = false := by unfold vpp; rw [h]; simp
theorem vpp_s {c v : Int} {l : List Pt} (h : vh c v l = true) (h2 : psOk l = true) : vpp c v l = decide (sm l l.length ≤ 200) := by unfold vpp; rw [h, h2]; simp
theorem vpp_ok {c v : Int} {l : List Pt} (h : vpp c v l = true) : vh c v l = true ∧ psOk l = true ∧ sm l l.length ≤ 200 := by
  unfold vpp at h
  simp only [Bool.and_eq_true, decide_eq_true_eq] at h
  exact ⟨h.1.1, h.1.2, h.2⟩
abbrev ppc (c v : Int) (A : Option Addr) (l : List Pt) (k : Nat) : Array Value := #[.int .i64 c, .int .i64 v, .slice A l.length k]

set_option maxHeartbeats 1000000 in
theorem vpaper_any (c v : Int) (A : Option Addr) (l : List Pt) (k : Nat) (w : World) (hl : l.length ≤ 1000000) (hr : RdP w A l) :
    Calls Try.prog 51 #[.agg (ppc c v A l k)] w fun e w' => e = .returned (.bool (vpp c v l)) ∧ Below w.heap.size w w' := by
  have HR := Lib.hid hr
  clear hr
  cases hh : vh c v l
  · have Hv := Lib.hid (vpp_h hh)
    have h' := decide_eq_false_iff_not.1 hh
    clear hh
    go_enter Try.func51, Try.ntmps51
    go_wp2_with fail
    all_goals (first | (exfalso; omega) | (go_ret; exact ⟨ret_bool Hv.out.symm, by (repeat (first | with_reducible exact Below.refl _ _ | with_reducible refine bl_drewN ?_ _ | with_reducible refine Below.drew ?_ | with_reducible refine bl_alloc ?_ _ | with_reducible refine Below.alloc ?_ (by first | omega | (simp; done) | (simp; omega)) _ | with_reducible refine Below.setCell ?_ (by first | omega | (simp; done) | (simp; omega)) _ | with_reducible assumption))⟩))
  · have Hh := Lib.hid hh
    obtain ⟨h1, h2, h3, h4, h5, h6⟩ := decide_eq_true_iff.1 hh
    have b1 : decide (c < 0) = false := by simp; omega
    have b2 : decide (31 < c) = false := by simp; omega
    have b3 : decide (v < 0) = false := by simp; omega
    have b4 : decide (4 ≤ v) = false := by simp; omega
    have b5 : decide ((l.length : Int) < 1) = false := by simp; omega
    have b6 : decide (24 < (l.length : Int)) = false := by simp; omega
    clear hh
    go_enter Try.func51, Try.ntmps51
    go_wp2_with fail
    go_loopw [36] (fun i wr => ∃ j : Nat, j ≤ l.length ∧ i = .int .i64 j ∧ (∀ m, m < j → vp (gp l m) = true) ∧ Bk wr w.heap.size 27 (ppc c v A l k) ∧ Below w.heap.size w wr) (fun i _ => l.length - (intOf i).toNat)
    case atStart => exact ⟨0, by omega, rfl, fun j hj => by omega, by (repeat (first | (refine Bk.new' ?_; (first | rfl | (simp; done) | (simp; omega))) | refine Bk.alloc ?_ _ | refine Bk.drewN ?_ _ | refine Bk.drew ?_ | with_reducible assumption)), by (repeat (first | with_reducible exact Below.refl _ _ | with_reducible refine bl_drewN ?_ _ | with_reducible refine Below.drew ?_ | with_reducible refine bl_alloc ?_ _ | with_reducible refine Below.alloc ?_ (by first | omega | (simp; done) | (simp; omega)) _ | with_reducible refine Below.setCell ?_ (by first | omega | (simp; done) | (simp; omega)) _ | with_reducible assumption))⟩
    case round =>
      obtain ⟨j, hj, rfl, hok, hB, hb⟩ := hrel
      have Hok := Lib.hid hok
      clear hok
      have hz := hb.size
      by_cases hlt : j < l.length
      · obtain ⟨b, off, rfl, hbl, c0, c1, c2, c3, c4, c5⟩ := (HR.out.old hb).at j hlt
        cases hv : vp (gp l j)
        · go_wp2_with fail
          refine (vpart (gp l j) _).mono ?_
          rintro e w1 ⟨rfl, hb1⟩
          go_wp2_with fail
          go_ret
          exact ⟨ret_bool (vpp_p (allI_false j hlt hv)).symm, bl_trans (by (repeat (first | with_reducible exact Below.refl _ _ | with_reducible refine bl_drewN ?_ _ | with_reducible refine Below.drew ?_ | with_reducible refine bl_alloc ?_ _ | with_reducible refine Below.alloc ?_ (by first | omega | (simp; done) | (simp; omega)) _ | with_reducible refine Below.setCell ?_ (by first | omega | (simp; done) | (simp; omega)) _ | with_reducible assumption))) hb1⟩
        · go_wp2_with fail
          refine (vpart (gp l j) _).mono ?_
          rintro e w1 ⟨rfl, hb1⟩
          have hB1 := (hB.alloc _).old hb1
          have hc1 : Below w.heap.size w w1 := bl_trans (by (repeat (first | with_reducible exact Below.refl _ _ | with_reducible refine bl_drewN ?_ _ | with_reducible refine Below.drew ?_ | with_reducible refine bl_alloc ?_ _ | with_reducible refine Below.alloc ?_ (by first | omega | (simp; done) | (simp; omega)) _ | with_reducible refine Below.setCell ?_ (by first | omega | (simp; done) | (simp; omega)) _ | with_reducible assumption))) hb1
          clear hb1 hB hb c0 c1 c2 c3 c4 c5
          go_wp2_with fail
          go_roundw
          case rel =>
            refine ⟨j + 1, by omega, by go_num, fun m hm => ?_, hB1, hc1⟩
            by_cases hjk : m = j
            · subst hjk; exact hv
            · exact Hok.out m (by omega)
          case measure => simp [intOf]; omega
      · have Hp := Lib.hid (show psOk l = true from allI_true fun j hj => Hok.out j (by omega))
        have d2 : wr.cell? ⟨w.heap.size, 2, none⟩ = some (.slice A l.length k) := hB.cell 2
        go_wp2_with fail
        refine (sum_any l A k _ (by omega) Hp.out (HR.out.old hb)).mono ?_
        rintro e w1 ⟨rfl, hb1⟩
        go_wp2_with fail
        go_ret
        exact ⟨ret_bool (vpp_s Hh.out Hp.out).symm, bl_trans hb hb1⟩

set_option maxHeartbeats 1000000 in
theorem rvpaper_any (c v : Int) (A : Option Addr) (l : List Pt) (k : Nat) (w : World) (hl : l.length ≤ 1000000) (hr : RdP w A l) :
    Calls Try.prog 53 #[.agg (ppc c v A l k)] w fun e w' => e = .returned (.bool (vpp c v l)) ∧ Below w.heap.size w w' := by
  have HR := Lib.hid hr
  clear hr
  cases hh : vh c v l
  · have Hv := Lib.hid (vpp_h hh)
    have h' := decide_eq_false_iff_not.1 hh
    clear hh
    go_enter Try.func53, Try.ntmps53
    go_wp2_with fail
    all_goals (first | (exfalso; omega) | (go_ret; exact ⟨ret_bool Hv.out.symm, by (repeat (first | with_reducible exact Below.refl _ _ | with_reducible refine bl_drewN ?_ _ | with_reducible refine Below.drew ?_ | with_reducible refine bl_alloc ?_ _ | with_reducible refine Below.alloc ?_ (by first | omega | (simp; done) | (simp; omega)) _ | with_reducible refine Below.setCell ?_ (by first | omega | (simp; done) | (simp; omega)) _ | with_reducible assumption))⟩))
  · have Hh := Lib.hid hh
    obtain ⟨h1, h2, h3, h4, h5, h6⟩ := decide_eq_true_iff.1 hh
    have b1 : decide (c < 0) = false := by simp; omega
    have b2 : decide (31 < c) = false := by simp; omega
    have b3 : decide (v < 0) = false := by simp; omega
    have b4 : decide (4 ≤ v) = false := by simp; omega
    have b5 : decide ((l.length : Int) < 1) = false := by simp; omega
    have b6 : decide (24 < (l.length : Int)) = false := by simp; omega
    clear hh
    go_enter Try.func53, Try.ntmps53
    go_wp2_with fail
    go_loopw [3, 4] (fun s i wr => ∃ j : Nat, j ≤ l.length ∧ i = .int .i64 j ∧ s = .int .i64 (sm l j) ∧ (0 ≤ sm l j ∧ sm l j ≤ 40 * j) ∧ (∀ m, m < j → vp (gp l m) = true) ∧ Bk wr w.heap.size 27 (ppc c v A l k) ∧ Below w.heap.size w wr) (fun _ i _ => l.length - (intOf i).toNat)
    case atStart => exact ⟨0, by omega, rfl, rfl, by simp [sm], fun j hj => by omega, by (repeat (first | (refine Bk.new' ?_; (first | rfl | (simp; done) | (simp; omega))) | refine Bk.alloc ?_ _ | refine Bk.drewN ?_ _ | refine Bk.drew ?_ | with_reducible assumption)), by (repeat (first | with_reducible exact Below.refl _ _ | with_reducible refine bl_drewN ?_ _ | with_reducible refine Below.drew ?_ | with_reducible refine bl_alloc ?_ _ | with_reducible refine Below.alloc ?_ (by first | omega | (simp; done) | (simp; omega)) _ | with_reducible refine Below.setCell ?_ (by first | omega | (simp; done) | (simp; omega)) _ | with_reducible assumption))⟩
    case round =>
      obtain ⟨j, hj, rfl, rfl, ⟨hs0, hs1⟩, hok, hB, hb⟩ := hrel
      have Hok := Lib.hid hok
      clear hok
      have hz := hb.size
      have d2 : wr.cell? ⟨w.heap.size, 2, none⟩ = some (.slice A l.length k) := hB.cell 2
      by_cases hlt : j < l.length
      · obtain ⟨b, off, rfl, hbl, c0, c1, c2, c3, c4, c5⟩ := (HR.out.old hb).at j hlt
        cases hv : vp (gp l j)
        · go_wp2_with fail
          refine (rvpart (gp l j) _).mono ?_
          rintro e w1 ⟨rfl, hb1⟩
          go_wp2_with fail
          go_ret
          exact ⟨ret_bool (vpp_p (allI_false j hlt hv)).symm, bl_trans (by (repeat (first | with_reducible exact Below.refl _ _ | with_reducible refine bl_drewN ?_ _ | with_reducible refine Below.drew ?_ | with_reducible refine bl_alloc ?_ _ | with_reducible refine Below.alloc ?_ (by first | omega | (simp; done) | (simp; omega)) _ | with_reducible refine Below.setCell ?_ (by first | omega | (simp; done) | (simp; omega)) _ | with_reducible assumption))) hb1⟩
        · have hm := (vp_iff _).1 hv
          have hm1 := hm.1
          have hm2 := hm.2.1
          go_wp2_with fail
          refine (rvpart (gp l j) _).mono ?_
          rintro e w1 ⟨rfl, hb1⟩
          have hB1 := hB.old hb1
          have hc1 : Below w.heap.size w w1 := bl_trans (by (repeat (first | with_reducible exact Below.refl _ _ | with_reducible refine bl_drewN ?_ _ | with_reducible refine Below.drew ?_ | with_reducible refine bl_alloc ?_ _ | with_reducible refine Below.alloc ?_ (by first | omega | (simp; done) | (simp; omega)) _ | with_reducible refine Below.setCell ?_ (by first | omega | (simp; done) | (simp; omega)) _ | with_reducible assumption))) hb1
          have e2 : w1.cell? ⟨w.heap.size, 2, none⟩ = some (.slice (some ⟨b, off, none⟩) l.length k) := hB1.cell 2
          clear hb1 hB hb c0 c1 c2 c3 c4 c5 d2
          obtain ⟨b', off', eq', hbl', c0, c1, c2, c3, c4, c5⟩ := (HR.out.old hc1).at j hlt
          cases eq'
          go_wp2_with fail
          go_roundw
          case rel =>
            refine ⟨j + 1, by omega, by go_num, rfl, ⟨by unfold sm; omega, by unfold sm; omega⟩, fun m hm => ?_, hB1, hc1⟩
            by_cases hjk : m = j
            · subst hjk; exact hv
            · exact Hok.out m (by omega)
          case measure => simp [intOf]; omega
      · have Hp := Lib.hid (show psOk l = true from allI_true fun j hj => Hok.out j (by omega))
        have Hj : Hid (j = l.length) := by unfold Hid; omega
        go_wp2_with fail
        go_ret
        exact ⟨ret_bool (by rw [vpp_s Hh.out Hp.out, Hj.out]), hb⟩

end Go.Proofs.Ytokddjohdodkmaa.Tm
