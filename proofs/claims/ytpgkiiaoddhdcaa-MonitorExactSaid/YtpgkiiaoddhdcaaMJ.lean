/- Walks: Run of the program and of the reference. -/
import Derived.Test.YtpgkiiaoddhdcaaMI
import Derived.WalkKit
import Derived.WalkSpells
import Derived.WalkLawsBesides
import Derived.Deep.QuietTactic
import Derived.BigQuiet
import Derived.Deep.Draws
import Derived.Deep.AppendLies
import Derived.Laws.OwnMore
import Derived.Laws.BytesArg
import Derived.Lib.Hide
import Derived.Deep.LoopGhost
import Derived.Deep.RegionWith
import Derived.RegionTactic
namespace Go.Proofs.Ytpgkiiaoddhdcaa.Mo
open Go.RowKit Go.Proofs.Ytpgkiiaoddhdcaa.Mw Go.Proofs.Ytpgkiiaoddhdcaa.Dc
set_option linter.unusedVariables false

/-- A step of a run. -/
def StPr (r : Rl) (l : List Bool) (k : Nat) (w : World) (e : Ending) (w' : World) : Prop := ∃ A c, e = .returned (.tuple #[wv A (pr r.w.toNat l (k + 1)) c (sus r l k), .int .i64 0]) ∧ RdB w' A (pr r.w.toNat l (k + 1)) ∧ (∀ a, A = some a → w.heap.size ≤ a.block ∧ a.block < w'.heap.size) ∧ Below w.heap.size w w'
theorem stpr_of {r : Rl} {l : List Bool} {k : Nat} {w : World} {e : Ending} {w' : World} (hk : k < l.length) (h : StOk r (pr r.w.toNat l k) (bi l k) w e w') : StPr r l k w e w' := by
  obtain ⟨A, c, h1, h2, h3, h4⟩ := h
  rw [pr_step _ _ _ hk] at h1 h2
  exact ⟨A, c, h1, h2, h3, h4⟩
theorem step_pr (r : Rl) (l : List Bool) (k : Nat) (A : Option Addr) (c : Nat) (hr : chk r = true) (hk : k < l.length) (hs : ∀ j, j < k → sus r l j = false) (w : World) (hA : RdB w A (pr r.w.toNat l k)) :
    Calls Try.prog 23 #[rv r, wv A (pr r.w.toNat l k) c false, .bool (bi l k)] w (StPr r l k w) :=
  (step_ok r _ A c (bi l k) (pre_vld r l k hr (by omega) hs) w hA).mono fun _ _ h => stpr_of hk h
theorem rstep_pr (r : Rl) (l : List Bool) (k : Nat) (A : Option Addr) (c : Nat) (hr : chk r = true) (hk : k < l.length) (hs : ∀ j, j < k → sus r l j = false) (w : World) (hA : RdB w A (pr r.w.toNat l k)) :
    Calls Try.prog 24 #[rv r, wv A (pr r.w.toNat l k) c false, .bool (bi l k)] w (StPr r l k w) :=
  (rstep_ok r _ A c (bi l k) (pre_vld r l k hr (by omega) hs) w hA).mono fun _ _ h => stpr_of hk h
theorem ret3 {a b c a' b' c' : Int} (h : a = a') (h' : b = b') (h'' : c = c') : Ending.returned (.tuple #[.int .i64 a, .int .i64 b, .int .i64 c]) = .returned (.tuple #[.int .i64 a', .int .i64 b', .int .i64 c']) := by rw [h, h', h'']
theorem lt_yes (l : List Bool) (k : Nat) (h : bi l k = true) : lt0 l (k + 1) = k := if_pos h
theorem lt_no (l : List Bool) (k : Nat) (h : bi l k = false) : lt0 l (k + 1) = lt0 l k := if_neg (by simp [h])
theorem sus_next {r : Rl} {l : List Bool} {k : Nat} (h : ∀ j, j < k → sus r l j = false) (h' : sus r l k = false) : ∀ j, j < k + 1 → sus r l j = false := fun j hj => by
  by_cases e : j = k
  · subst e; exact h'
  · exact h j (by omega)

set_option maxHeartbeats 400000 in
theorem run_no (r : Rl) (l : List Bool) (A : Option Addr) (c : Nat) (hc : chk r = false) (w : World) :
    Calls Try.prog 20 #[rv r, .slice A l.length c] w fun e w' => e = .returned (.tuple #[.int .i64 0, .int .i64 0, .int .i64 2]) ∧ Below w.heap.size w w' := by
  have Hc := Lib.hid hc
  clear hc
  go_enter Try.func20, Try.ntmps20
  go_wp2_with fail
  refine (check_no r Hc.out _).mono ?_
  rintro e w1 ⟨rfl, hb1⟩
  go_wp2_with fail
  go_ret3
  exact ⟨rfl, bl_trans (by (repeat (first | with_reducible exact Below.refl _ _ | with_reducible refine bl_drewN ?_ _ | with_reducible refine Below.drew ?_ | with_reducible refine bl_alloc ?_ _ | with_reducible refine Below.alloc ?_ (by first | omega | (simp; done) | (simp; omega)) _ | with_reducible refine Below.setCell ?_ (by first | omega | (simp; done) | (simp; omega)) _ | with_reducible assumption))) hb1⟩
set_option maxHeartbeats 400000 in
theorem rrun_no (r : Rl) (l : List Bool) (A : Option Addr) (c : Nat) (hc : chk r = false) (w : World) :
    Calls Try.prog 21 #[rv r, .slice A l.length c] w fun e w' => e = .returned (.tuple #[.int .i64 0, .int .i64 0, .int .i64 2]) ∧ Below w.heap.size w w' := by
  have Hc := Lib.hid hc
  clear hc
  go_enter Try.func21, Try.ntmps21
  go_wp2_with fail
  refine (rcheck_no r Hc.out _).mono ?_
  rintro e w1 ⟨rfl, hb1⟩
  go_wp2_with fail
  go_ret3
  exact ⟨rfl, bl_trans (by (repeat (first | with_reducible exact Below.refl _ _ | with_reducible refine bl_drewN ?_ _ | with_reducible refine Below.drew ?_ | with_reducible refine bl_alloc ?_ _ | with_reducible refine Below.alloc ?_ (by first | omega | (simp; done) | (simp; omega)) _ | with_reducible refine Below.setCell ?_ (by first | omega | (simp; done) | (simp; omega)) _ | with_reducible assumption))) hb1⟩
set_option maxHeartbeats 1000000 in
theorem run_yes (r : Rl) (l : List Bool) (A : Option Addr) (c : Nat) (hc : chk r = true) (w : World) (hl : l.length ≤ 1000000) (hr : RdB w A l) :
    Calls Try.prog 20 #[rv r, .slice A l.length c] w fun e w' => e = .returned (.tuple #[.int .i64 (runS r l), .int .i64 (runG r l), .int .i64 0]) ∧ Below w.heap.size w w' := by
  have Hc := Lib.hid hc
  clear hc
  have HR := Lib.hid hr
  clear hr
  have Hp0 := Lib.hid (pr_zero r.w.toNat l)
  go_enter Try.func20, Try.ntmps20
  go_wp2_with fail
  refine (check_yes r Hc.out _).mono ?_
  rintro e w1 ⟨rfl, hb1⟩
  have hB1 : Bk w1 w.heap.size 24 (rc r) := Bk.old (by (repeat (first | ((with_reducible refine Mw.Bk.new' ?_); (first | rfl | (simp; done) | (simp; omega))) | with_reducible refine Mw.Bk.alloc ?_ _ | with_reducible refine Mw.Bk.drewN ?_ _ | with_reducible refine Mw.Bk.drew ?_ | with_reducible assumption))) hb1
  have hc1 : Below w.heap.size w w1 := bl_trans (by (repeat (first | with_reducible exact Below.refl _ _ | with_reducible refine bl_drewN ?_ _ | with_reducible refine Below.drew ?_ | with_reducible refine bl_alloc ?_ _ | with_reducible refine Below.alloc ?_ (by first | omega | (simp; done) | (simp; omega)) _ | with_reducible refine Below.setCell ?_ (by first | omega | (simp; done) | (simp; omega)) _ | with_reducible assumption))) hb1
  have hz1 := hB1.lt
  clear hb1
  go_wp2_with fail
  go_loopw [5, 20] (fun x i wr => ∃ (k : Nat) (A : Option Addr) (c : Nat), k ≤ l.length ∧ i = .int .i64 k ∧ x = .int .i64 (lt0 l k) ∧ (∀ j, j < k → sus r l j = false) ∧ Bk wr w.heap.size 24 (rc r) ∧ Bk wr w1.heap.size 27 (wc A (pr r.w.toNat l k) c false) ∧ RdB wr A (pr r.w.toNat l k) ∧ Below w.heap.size w wr) (fun _ i _ => l.length - (intOf i).toNat)
  case atStart =>
    refine ⟨0, none, 0, by omega, rfl, rfl, fun j hj => by omega, by (repeat (first | with_reducible assumption | ((with_reducible refine Mw.Bk.new' ?_); (first | rfl | (simp; done) | (simp; omega))) | with_reducible refine Mw.Bk.alloc ?_ _ | with_reducible refine Mw.Bk.drew ?_ | with_reducible refine Mw.Bk.drewN ?_ _ | with_reducible refine Mw.Bk.set4 (a0 := .int .u32 0) (a1 := .int .u32 0) (a2 := .int .u32 0) (a3 := .int .u32 0) ?_ | ((with_reducible refine Mw.Bk.far ?_ ?_ _); rotate_left 1; focus (first | omega | (simp; done) | (simp; omega))) | with_reducible refine Mw.Bk.old ?_ (by assumption))), ?_, by rw [Hp0.out]; exact RdB.nil _ _, by (repeat (first | with_reducible exact Below.refl _ _ | with_reducible refine bl_drewN ?_ _ | with_reducible refine Below.drew ?_ | with_reducible refine bl_alloc ?_ _ | with_reducible refine Below.alloc ?_ (by first | omega | (simp; done) | (simp; omega)) _ | with_reducible refine Below.setCell ?_ (by first | omega | (simp; done) | (simp; omega)) _ | with_reducible assumption))⟩
    rw [Hp0.out]
    exact Bk.new' rfl
  case round =>
    clear hB1 hc1
    obtain ⟨k, A8, c8, hk, rfl, rfl, hok, hB, hW, hr8, hb⟩ := hrel
    have Hok := Lib.hid hok
    clear hok
    obtain ⟨⟨k0, k1, k2, k3⟩, -⟩ := bk4 hB
    obtain ⟨⟨j0, j1⟩, f0, f1⟩ := bk2 hW
    have hz := hW.lt
    have hlb := lt0_bd l k
    by_cases hlt : k < l.length
    · obtain ⟨b, off, rfl, hbl, hcl⟩ := (HR.out.old hb) k hlt
      go_wp2_with fail
      refine (step_pr r l k A8 c8 Hc.out hlt Hok.out _ hr8).mono ?_
      rintro e w2 ⟨A9, c9, rfl, hr9, ha9, hb2⟩
      have hB2 := hB.old hb2
      have hW2 := hW.old hb2
      have hc2 := bl_trans hb hb2
      have hs2 := hb2.size
      have Ha9 := Lib.hid ha9
      clear hb2 hB hW hb hr8 ha9 j0 j1 f0 f1 k0 k1 k2 k3 hcl
      obtain ⟨⟨j0, j1⟩, f0, f1⟩ := bk2 hW2
      have hz2 := hW2.lt
      cases hv : sus r l k
      · have Hok' := Lib.hid (sus_next Hok.out hv)
        clear hv
        cases hg : bi l k
        · have Hl := Lib.hid (lt_no l k hg)
          go_wp2_with fail
          go_roundw
          case rel =>
            refine ⟨k + 1, A9, c9, by omega, by go_num, by rw [Hl.out], Hok'.out, by (repeat (first | with_reducible assumption | ((with_reducible refine Mw.Bk.new' ?_); (first | rfl | (simp; done) | (simp; omega))) | with_reducible refine Mw.Bk.alloc ?_ _ | with_reducible refine Mw.Bk.drew ?_ | with_reducible refine Mw.Bk.drewN ?_ _ | with_reducible refine Mw.Bk.set4 (a0 := .int .u32 0) (a1 := .int .u32 0) (a2 := .int .u32 0) (a3 := .int .u32 0) ?_ | ((with_reducible refine Mw.Bk.far ?_ ?_ _); rotate_left 1; focus (first | omega | (simp; done) | (simp; omega))) | with_reducible refine Mw.Bk.old ?_ (by assumption))), ?_, ?_, by (repeat (first | with_reducible exact Below.refl _ _ | with_reducible refine bl_drewN ?_ _ | with_reducible refine Below.drew ?_ | with_reducible refine bl_alloc ?_ _ | with_reducible refine Below.alloc ?_ (by first | omega | (simp; done) | (simp; omega)) _ | with_reducible refine Below.setCell ?_ (by first | omega | (simp; done) | (simp; omega)) _ | with_reducible assumption))⟩
            · exact ((hW2.set 0 (.slice A9 (pr r.w.toNat l (k + 1)).length c9)).set 1 (.bool false)).alloc _
            · have hA : Away w1.heap.size A9 := fun a e => by have := (Ha9.out a e).1; omega
              exact ((hr9.far (p := ⟨w1.heap.size, 0, none⟩) hA _).far (p := ⟨w1.heap.size, 1, none⟩) hA _).alloc _
          case measure => simp [intOf]; omega
        · have Hl := Lib.hid (lt_yes l k hg)
          go_wp2_with fail
          go_roundw
          case rel =>
            refine ⟨k + 1, A9, c9, by omega, by go_num, by rw [Hl.out], Hok'.out, by (repeat (first | with_reducible assumption | ((with_reducible refine Mw.Bk.new' ?_); (first | rfl | (simp; done) | (simp; omega))) | with_reducible refine Mw.Bk.alloc ?_ _ | with_reducible refine Mw.Bk.drew ?_ | with_reducible refine Mw.Bk.drewN ?_ _ | with_reducible refine Mw.Bk.set4 (a0 := .int .u32 0) (a1 := .int .u32 0) (a2 := .int .u32 0) (a3 := .int .u32 0) ?_ | ((with_reducible refine Mw.Bk.far ?_ ?_ _); rotate_left 1; focus (first | omega | (simp; done) | (simp; omega))) | with_reducible refine Mw.Bk.old ?_ (by assumption))), ?_, ?_, by (repeat (first | with_reducible exact Below.refl _ _ | with_reducible refine bl_drewN ?_ _ | with_reducible refine Below.drew ?_ | with_reducible refine bl_alloc ?_ _ | with_reducible refine Below.alloc ?_ (by first | omega | (simp; done) | (simp; omega)) _ | with_reducible refine Below.setCell ?_ (by first | omega | (simp; done) | (simp; omega)) _ | with_reducible assumption))⟩
            · exact ((hW2.set 0 (.slice A9 (pr r.w.toNat l (k + 1)).length c9)).set 1 (.bool false)).alloc _
            · have hA : Away w1.heap.size A9 := fun a e => by have := (Ha9.out a e).1; omega
              exact ((hr9.far (p := ⟨w1.heap.size, 0, none⟩) hA _).far (p := ⟨w1.heap.size, 1, none⟩) hA _).alloc _
          case measure => simp [intOf]; omega
      · have Hs := Lib.hid (runS_at r l k hlt hv Hok.out)
        have Hg : Hid (runG r l = lt0 l k) := by unfold Hid runG; rw [endR_at r l k Hs.out]
        clear hv
        go_wp2_with fail
        go_ret3
        exact ⟨ret3 Hs.out.symm Hg.out.symm rfl, by (repeat (first | with_reducible exact Below.refl _ _ | with_reducible refine bl_drewN ?_ _ | with_reducible refine Below.drew ?_ | with_reducible refine bl_alloc ?_ _ | with_reducible refine Below.alloc ?_ (by first | omega | (simp; done) | (simp; omega)) _ | with_reducible refine Below.setCell ?_ (by first | omega | (simp; done) | (simp; omega)) _ | with_reducible assumption))⟩
    · have Hk : Hid (k = l.length) := by unfold Hid; omega
      have Hs := Lib.hid (runS_none r l (fun j hj => Hok.out j (by omega)))
      have Hg : Hid (runG r l = lt0 l k) := by unfold Hid runG; rw [endR_none r l Hs.out, ← Hk.out]
      go_wp2_with fail
      go_ret3
      exact ⟨ret3 Hs.out.symm Hg.out.symm rfl, hb⟩
set_option maxHeartbeats 1000000 in
theorem rrun_yes (r : Rl) (l : List Bool) (A : Option Addr) (c : Nat) (hc : chk r = true) (w : World) (hl : l.length ≤ 1000000) (hr : RdB w A l) :
    Calls Try.prog 21 #[rv r, .slice A l.length c] w fun e w' => e = .returned (.tuple #[.int .i64 (runS r l), .int .i64 (runG r l), .int .i64 0]) ∧ Below w.heap.size w w' := by
  have Hc := Lib.hid hc
  clear hc
  have HR := Lib.hid hr
  clear hr
  have Hp0 := Lib.hid (pr_zero r.w.toNat l)
  go_enter Try.func21, Try.ntmps21
  go_wp2_with fail
  refine (rcheck_yes r Hc.out _).mono ?_
  rintro e w1 ⟨rfl, hb1⟩
  have hB1 : Bk w1 w.heap.size 24 (rc r) := Bk.old (by (repeat (first | ((with_reducible refine Mw.Bk.new' ?_); (first | rfl | (simp; done) | (simp; omega))) | with_reducible refine Mw.Bk.alloc ?_ _ | with_reducible refine Mw.Bk.drewN ?_ _ | with_reducible refine Mw.Bk.drew ?_ | with_reducible assumption))) hb1
  have hc1 : Below w.heap.size w w1 := bl_trans (by (repeat (first | with_reducible exact Below.refl _ _ | with_reducible refine bl_drewN ?_ _ | with_reducible refine Below.drew ?_ | with_reducible refine bl_alloc ?_ _ | with_reducible refine Below.alloc ?_ (by first | omega | (simp; done) | (simp; omega)) _ | with_reducible refine Below.setCell ?_ (by first | omega | (simp; done) | (simp; omega)) _ | with_reducible assumption))) hb1
  have hz1 := hB1.lt
  clear hb1
  go_wp2_with fail
  go_loopw [9, 10] (fun x i wr => ∃ (k : Nat) (A : Option Addr) (c : Nat), k ≤ l.length ∧ i = .int .i64 k ∧ x = .int .i64 (lt0 l k) ∧ (∀ j, j < k → sus r l j = false) ∧ Bk wr w.heap.size 24 (rc r) ∧ Bk wr w1.heap.size 27 (wc A (pr r.w.toNat l k) c false) ∧ RdB wr A (pr r.w.toNat l k) ∧ Below w.heap.size w wr) (fun _ i _ => l.length - (intOf i).toNat)
  case atStart =>
    refine ⟨0, none, 0, by omega, rfl, rfl, fun j hj => by omega, by (repeat (first | with_reducible assumption | ((with_reducible refine Mw.Bk.new' ?_); (first | rfl | (simp; done) | (simp; omega))) | with_reducible refine Mw.Bk.alloc ?_ _ | with_reducible refine Mw.Bk.drew ?_ | with_reducible refine Mw.Bk.drewN ?_ _ | with_reducible refine Mw.Bk.set4 (a0 := .int .u32 0) (a1 := .int .u32 0) (a2 := .int .u32 0) (a3 := .int .u32 0) ?_ | ((with_reducible refine Mw.Bk.far ?_ ?_ _); rotate_left 1; focus (first | omega | (simp; done) | (simp; omega))) | with_reducible refine Mw.Bk.old ?_ (by assumption))), ?_, by rw [Hp0.out]; exact RdB.nil _ _, by (repeat (first | with_reducible exact Below.refl _ _ | with_reducible refine bl_drewN ?_ _ | with_reducible refine Below.drew ?_ | with_reducible refine bl_alloc ?_ _ | with_reducible refine Below.alloc ?_ (by first | omega | (simp; done) | (simp; omega)) _ | with_reducible refine Below.setCell ?_ (by first | omega | (simp; done) | (simp; omega)) _ | with_reducible assumption))⟩
    rw [Hp0.out]
    exact Bk.new' rfl
  case round =>
    clear hB1 hc1
    obtain ⟨k, A8, c8, hk, rfl, rfl, hok, hB, hW, hr8, hb⟩ := hrel
    have Hok := Lib.hid hok
    clear hok
    obtain ⟨⟨k0, k1, k2, k3⟩, -⟩ := bk4 hB
    obtain ⟨⟨j0, j1⟩, f0, f1⟩ := bk2 hW
    have hz := hW.lt
    have hlb := lt0_bd l k
    by_cases hlt : k < l.length
    · obtain ⟨b, off, rfl, hbl, hcl⟩ := (HR.out.old hb) k hlt
      have hki : (0 : Int) ≤ k := by omega
      have hkj : (k : Int) < l.length := by omega
      go_wp2_with fail
      go_region_with (go_at_call 24; refine (rstep_pr r l k A8 c8 Hc.out hlt Hok.out _ (by exact hr8.drew)).mono ?_; rintro e w2 ⟨A9, c9, rfl, hr9, ha9, hb2⟩; have hW2 := Bk.old hW.drew hb2; obtain ⟨⟨m0, m1⟩, g0, g1⟩ := bk2 hW2)
      all_goals
        have hB2 := Bk.old hB.drew hb2
        have hc2 : Below w.heap.size w w2 := bl_trans hb.drew hb2
        have hs2 : wr.heap.size ≤ w2.heap.size := hb2.size
        have Ha9 : Hid (∀ a, A9 = some a → wr.heap.size ≤ a.block ∧ a.block < w2.heap.size) := ha9
        have hz2 := hW2.lt
        have hbw : b < w.heap.size := by
          obtain ⟨b1, o1, e1, hb1, -⟩ := HR.out k hlt
          cases e1
          exact hb1
        have hq2 : w2.cell? ⟨b, off + k, none⟩ = some (.bool (bi l k)) := (hb2.cell (p := ⟨b, off + k, none⟩) hbl).trans hcl
        have hq3 : b ≠ w1.heap.size := by omega
        clear hb2 hB hW hb hr8 ha9 j0 j1 f0 f1 k0 k1 k2 k3 hcl hbl
        cases hv : sus r l k
        · have Hok' := Lib.hid (sus_next Hok.out hv)
          cases hg : bi l k
          · have Hl := Lib.hid (lt_no l k hg)
            rw [hg] at hq2
            go_wp2_with fail
            go_roundw
            case rel =>
              refine ⟨k + 1, A9, c9, by omega, by go_num, by rw [Hl.out], Hok'.out, by (repeat (first | with_reducible assumption | ((with_reducible refine Mw.Bk.new' ?_); (first | rfl | (simp; done) | (simp; omega))) | with_reducible refine Mw.Bk.alloc ?_ _ | with_reducible refine Mw.Bk.drew ?_ | with_reducible refine Mw.Bk.drewN ?_ _ | with_reducible refine Mw.Bk.set4 (a0 := .int .u32 0) (a1 := .int .u32 0) (a2 := .int .u32 0) (a3 := .int .u32 0) ?_ | ((with_reducible refine Mw.Bk.far ?_ ?_ _); rotate_left 1; focus (first | omega | (simp; done) | (simp; omega))) | with_reducible refine Mw.Bk.old ?_ (by assumption))), ?_, ?_, by (repeat (first | with_reducible exact Below.refl _ _ | with_reducible refine bl_drewN ?_ _ | with_reducible refine Below.drew ?_ | with_reducible refine bl_alloc ?_ _ | with_reducible refine Below.alloc ?_ (by first | omega | (simp; done) | (simp; omega)) _ | with_reducible refine Below.setCell ?_ (by first | omega | (simp; done) | (simp; omega)) _ | with_reducible assumption))⟩
              · exact (hW2.set 0 (.slice A9 (pr r.w.toNat l (k + 1)).length c9)).set 1 (.bool false)
              · have hA : Away w1.heap.size A9 := fun a e => by have := (Ha9.out a e).1; omega
                exact (hr9.far (p := ⟨w1.heap.size, 0, none⟩) hA _).far (p := ⟨w1.heap.size, 1, none⟩) hA _
            case measure => simp [intOf]; omega
          · have Hl := Lib.hid (lt_yes l k hg)
            rw [hg] at hq2
            go_wp2_with fail
            go_roundw
            case rel =>
              refine ⟨k + 1, A9, c9, by omega, by go_num, by rw [Hl.out], Hok'.out, by (repeat (first | with_reducible assumption | ((with_reducible refine Mw.Bk.new' ?_); (first | rfl | (simp; done) | (simp; omega))) | with_reducible refine Mw.Bk.alloc ?_ _ | with_reducible refine Mw.Bk.drew ?_ | with_reducible refine Mw.Bk.drewN ?_ _ | with_reducible refine Mw.Bk.set4 (a0 := .int .u32 0) (a1 := .int .u32 0) (a2 := .int .u32 0) (a3 := .int .u32 0) ?_ | ((with_reducible refine Mw.Bk.far ?_ ?_ _); rotate_left 1; focus (first | omega | (simp; done) | (simp; omega))) | with_reducible refine Mw.Bk.old ?_ (by assumption))), ?_, ?_, by (repeat (first | with_reducible exact Below.refl _ _ | with_reducible refine bl_drewN ?_ _ | with_reducible refine Below.drew ?_ | with_reducible refine bl_alloc ?_ _ | with_reducible refine Below.alloc ?_ (by first | omega | (simp; done) | (simp; omega)) _ | with_reducible refine Below.setCell ?_ (by first | omega | (simp; done) | (simp; omega)) _ | with_reducible assumption))⟩
              · exact (hW2.set 0 (.slice A9 (pr r.w.toNat l (k + 1)).length c9)).set 1 (.bool false)
              · have hA : Away w1.heap.size A9 := fun a e => by have := (Ha9.out a e).1; omega
                exact (hr9.far (p := ⟨w1.heap.size, 0, none⟩) hA _).far (p := ⟨w1.heap.size, 1, none⟩) hA _
            case measure => simp [intOf]; omega
        · have Hs := Lib.hid (runS_at r l k hlt hv Hok.out)
          have Hg : Hid (runG r l = lt0 l k) := by unfold Hid runG; rw [endR_at r l k Hs.out]
          go_wp2_with fail
          go_ret3
          exact ⟨ret3 Hs.out.symm Hg.out.symm rfl, by (repeat (first | with_reducible exact Below.refl _ _ | with_reducible refine bl_drewN ?_ _ | with_reducible refine Below.drew ?_ | with_reducible refine bl_alloc ?_ _ | with_reducible refine Below.alloc ?_ (by first | omega | (simp; done) | (simp; omega)) _ | with_reducible refine Below.setCell ?_ (by first | omega | (simp; done) | (simp; omega)) _ | with_reducible assumption))⟩
    · have Hk : Hid (k = l.length) := by unfold Hid; omega
      have Hs := Lib.hid (runS_none r l (fun j hj => Hok.out j (by omega)))
      have Hg : Hid (runG r l = lt0 l k) := by unfold Hid runG; rw [endR_none r l Hs.out, ← Hk.out]
      go_wp2_with fail
      go_ret3
      exact ⟨ret3 Hs.out.symm Hg.out.symm rfl, hb⟩
end Go.Proofs.Ytpgkiiaoddhdcaa.Mo
