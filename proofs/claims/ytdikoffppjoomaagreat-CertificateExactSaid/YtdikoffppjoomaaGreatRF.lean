/- Walks: lead of the program and of the reference. -/
import Derived.Test.YtdikoffppjoomaaGreatRD
import Derived.WalkKit
import Derived.WalkSpells
import Derived.WalkLawsBesides
import Derived.Deep.QuietTactic
import Derived.BigQuiet
import Derived.Deep.Draws
import Derived.Deep.AppendLies
import Derived.Laws.OwnMore
import Derived.Laws.BytesArg
import Derived.Lib.Hide
import Derived.Deep.LoopGhost
import Derived.Deep.RegionWith
import Derived.Deep.RegionHeld3
import Derived.Deep.CutBlock
import Derived.RegionTactic
namespace Go.Proofs.YtdikoffppjoomaaGreat.Tr
open Go.RowKit Go.Proofs.YtdikoffppjoomaaGreat.Dg
open Go.Proofs.YtdikoffppjoomaaGreat.Mw (I64 ret_int ret_bool Bk bl_trans own_ints)
set_option linter.unusedVariables false
set_option linter.unusedSimpArgs false
set_option maxRecDepth 100000

theorem ieq0 (n : Nat) : ((n : Int) == 0) = (n == 0) := by rw [Bool.eq_iff_iff]; simp
def LD (x : St × Bool) (w : World) (e : Ending) (w' : World) : Prop := e = .returned (.tuple #[dv x.1, .bool x.2]) ∧ Below w.heap.size w w'

set_option maxHeartbeats 1000000 in
theorem plead_1 (lf : St) (i : Nat) (p : List St) (A : Option Addr) (c : Nat) (w : World) :
    Calls Tryz.prog 117 #[dv lf, .int .i64 (i : Int), .int .i64 1, .slice A p.length c] w (LD (lead lf i 1 p) w) := by
  have He := Lib.hid (lead_1 lf i p)
  go_enter Tryz.func117, Tryz.ntmps117
  go_wp2_with fail
  refine bodyPost_ret (v := .tuple #[dv lf, .bool (p.length == 0)]) (by simp [results, Tryz.results117, go_sem, ieq0]) rfl ⟨by rw [He.out], ?_⟩
  (repeat (first | with_reducible exact Below.refl _ _ | with_reducible refine bl_drewN ?_ _ | with_reducible refine Below.drew ?_ | with_reducible refine bl_alloc ?_ _ | with_reducible refine Below.alloc ?_ (by first | omega | (simp; done) | (simp; omega)) _ | with_reducible refine Below.setCell ?_ (by first | omega | (simp; done) | (simp; omega)) _ | with_reducible assumption))
set_option maxHeartbeats 1000000 in
theorem plead_0 (lf : St) (i n : Nat) (p : List St) (A : Option Addr) (c : Nat) (w : World) (hn : n ≠ 1) (h0 : p.length = 0) :
    Calls Tryz.prog 117 #[dv lf, .int .i64 (i : Int), .int .i64 (n : Int), .slice A p.length c] w (LD (lead lf i n p) w) := by
  have He := Lib.hid (lead_0 lf i n p hn h0)
  have n1 : ((n : Int) == 1) = false := beq_eq_false_iff_ne.2 (by omega)
  rw [h0]
  go_enter Tryz.func117, Tryz.ntmps117
  go_wp2_with fail
  refine bodyPost_ret (v := .tuple #[dv (0, 0, 0, 0), .bool false]) (by simp [results, Tryz.results117, go_sem]) rfl ⟨by rw [He.out], ?_⟩
  (repeat (first | with_reducible exact Below.refl _ _ | with_reducible refine bl_drewN ?_ _ | with_reducible refine Below.drew ?_ | with_reducible refine bl_alloc ?_ _ | with_reducible refine Below.alloc ?_ (by first | omega | (simp; done) | (simp; omega)) _ | with_reducible refine Below.setCell ?_ (by first | omega | (simp; done) | (simp; omega)) _ | with_reducible assumption))
set_option maxHeartbeats 2000000 in
theorem plead_ind (f : Nat) : ∀ (lf : St) (i n : Nat) (p : List St) (A : Option Addr) (c : Nat) (w : World), p.length ≤ f → i < n → n ≤ 1000000 → p.length ≤ 1000000 → p.length ≤ c → c ≤ maxLen → RdD w A p →
    Calls Tryz.prog 117 #[dv lf, .int .i64 (i : Int), .int .i64 (n : Int), .slice A p.length c] w (LD (lead lf i n p) w) := by
  induction f with
  | zero =>
    intro lf i n p A c w hf hi hn hp hpc hcm hr
    by_cases h1 : n = 1
    · subst h1; exact plead_1 lf i p A c w
    · exact plead_0 lf i n p A c w h1 (by omega)
  | succ f ih =>
    intro lf i n p A c w hf hi hn hp hpc hcm hr
    by_cases h1 : n = 1
    · subst h1; exact plead_1 lf i p A c w
    by_cases h0 : p.length = 0
    · exact plead_0 lf i n p A c w h1 h0
    have n1 : ((n : Int) == 1) = false := beq_eq_false_iff_ne.2 (by omega)
    have n0 : ((p.length : Int) == 0) = false := beq_eq_false_iff_ne.2 (by omega)
    obtain ⟨b, off, rfl, hbl, c0, c1, c2, c3⟩ := hr.at (p.length - 1) (by omega)
    obtain ⟨L, hL⟩ : ∃ L, L = p.length - 1 := ⟨_, rfl⟩
    have hw : IntKind.i64.wrap ((p.length : Int) - 1) = (L : Int) := by rw [IntWalk.i64_in _ (by omega)]; omega
    have hil : (ini p).length = L := by rw [ini_len, hL]
    have hri : RdD w (some ⟨b, off, none⟩) (ini p) := hr.take _
    have hlst : gd p (p.length - 1) = lst p := rfl
    rw [hlst, ← hL] at c0 c1 c2 c3
    have h4 := spl_pos (n := n) (by omega)
    have h5 := spl_lt (n := n) (by omega)
    obtain ⟨K, hK⟩ : ∃ K, K = spl n := ⟨_, rfl⟩
    have HS := Lib.hid (show ∀ W : World, Calls Tryz.prog 90 #[.int .i64 (n : Int)] W fun e w' => e = .returned (.int .i64 (K : Int)) ∧ W = w' by
      intro W
      have h6 := split_any (n : Int) (I64n _ (by omega)) W
      rw [splI_nat, ← hK] at h6
      exact h6)
    have k1 : (0 : Int) ≤ (L : Int) := by omega
    have k2 : (L : Int) < (p.length : Int) := by omega
    have k3 : (L : Int) ≤ (c : Int) := by omega
    have k4 : L < p.length := by omega
    have hne : ¬ b = w.heap.size := by omega
    have hne1 : ¬ w.heap.size = b := by omega
    have hne2 : w.heap.size + 1 ≠ b := by omega
    have hne3 : w.heap.size + 2 ≠ b := by omega
    have hne4 : w.heap.size + 1 + 1 ≠ b := by omega
    rw [← hK] at h4 h5
    by_cases hik : i < K
    · have hle := lead_l lf i n p h1 h0 (by rw [← hK]; exact hik)
      rw [← hK] at hle
      have He := Lib.hid hle
      have HP := Lib.hid (show ∀ W : World, Below w.heap.size w W → Calls Tryz.prog 117 #[dv lf, .int .i64 (i : Int), .int .i64 (K : Int), .slice (some ⟨b, off, none⟩) L c] W (LD (lead lf i K (ini p)) W) from fun W hW => by
        have h6 := ih lf i K (ini p) (some ⟨b, off, none⟩) c W (by omega) (by omega) (by omega) (by omega) (by omega) hcm (hri.old hW)
        rw [hil] at h6
        exact h6)
      have t1 : decide ((i : Int) < (K : Int)) = true := decide_eq_true (by omega)
      generalize lead lf i K (ini p) = X at HP He
      obtain ⟨x, xb⟩ := X
      generalize lst p = q at c0 c1 c2 c3 He
      unfold maxLen at hcm
      clear ih hr hri hlst hle hK hil hL
      go_enter Tryz.func117, Tryz.ntmps117
      go_upto_region 5 with fail
      go_cut [10, 11] (fun s p wx => s = .slice (some ⟨b, off, none⟩) L c ∧ ∃ g, p = .pointer (some ⟨g, 0, none⟩) ∧ Bk wx g 35 (c4 q) ∧ Bk wx w.heap.size 35 (c4 lf) ∧ Bk wx (w.heap.size + 1) 35 z4 ∧ Below w.heap.size w wx)
      case first =>
        go_region_held3 (fun w' => w'.cell? ⟨b, off + L * 4, none⟩ = some (.int .u32 q.1) ∧ w'.cell? ⟨b, off + L * 4 + 1, none⟩ = some (.int .u32 q.2.1) ∧ w'.cell? ⟨b, off + L * 4 + 2, none⟩ = some (.int .u32 q.2.2.1) ∧ w'.cell? ⟨b, off + L * 4 + 3, none⟩ = some (.int .u32 q.2.2.2)) ((refine ⟨?_, ?_, ?_, ?_⟩ <;> (repeat (first | with_reducible assumption | with_reducible refine Mw.cell_alloc ?_ _ | with_reducible refine Mw.cell_drew ?_ | with_reducible refine Mw.cell_far ?_ (by first | assumption | omega | (simp; omega)) _)))) (fail)
        all_goals
          go_wp2_with fail
          go_meet
          exact ⟨rfl, _, rfl, by (repeat (first | with_reducible assumption | ((with_reducible refine Mw.Bk.new' ?_); (first | rfl | (simp; done) | (simp; omega))) | with_reducible refine Mw.Bk.alloc ?_ _ | with_reducible refine Mw.Bk.drew ?_ | with_reducible refine Mw.Bk.drewN ?_ _ | with_reducible refine Mw.Bk.set4 (a0 := .int .u32 0) (a1 := .int .u32 0) (a2 := .int .u32 0) (a3 := .int .u32 0) ?_ | ((with_reducible refine Mw.Bk.far ?_ ?_ _); rotate_left 1; focus (first | omega | (simp; done) | (simp; omega))) | with_reducible refine Mw.Bk.old ?_ (by assumption))), by (repeat (first | with_reducible assumption | ((with_reducible refine Mw.Bk.new' ?_); (first | rfl | (simp; done) | (simp; omega))) | with_reducible refine Mw.Bk.alloc ?_ _ | with_reducible refine Mw.Bk.drew ?_ | with_reducible refine Mw.Bk.drewN ?_ _ | with_reducible refine Mw.Bk.set4 (a0 := .int .u32 0) (a1 := .int .u32 0) (a2 := .int .u32 0) (a3 := .int .u32 0) ?_ | ((with_reducible refine Mw.Bk.far ?_ ?_ _); rotate_left 1; focus (first | omega | (simp; done) | (simp; omega))) | with_reducible refine Mw.Bk.old ?_ (by assumption))), by (repeat (first | with_reducible assumption | ((with_reducible refine Mw.Bk.new' ?_); (first | rfl | (simp; done) | (simp; omega))) | with_reducible refine Mw.Bk.alloc ?_ _ | with_reducible refine Mw.Bk.drew ?_ | with_reducible refine Mw.Bk.drewN ?_ _ | with_reducible refine Mw.Bk.set4 (a0 := .int .u32 0) (a1 := .int .u32 0) (a2 := .int .u32 0) (a3 := .int .u32 0) ?_ | ((with_reducible refine Mw.Bk.far ?_ ?_ _); rotate_left 1; focus (first | omega | (simp; done) | (simp; omega))) | with_reducible refine Mw.Bk.old ?_ (by assumption))), by (repeat (first | with_reducible exact Below.refl _ _ | with_reducible refine bl_drewN ?_ _ | with_reducible refine Below.drew ?_ | with_reducible refine bl_alloc ?_ _ | with_reducible refine Below.alloc ?_ (by first | omega | (simp; done) | (simp; omega)) _ | with_reducible refine Below.setCell ?_ (by first | omega | (simp; done) | (simp; omega)) _ | with_reducible assumption))⟩
      case rest =>
        obtain ⟨rfl, g, rfl, hQ, hF, hZ, hb⟩ := hcut
        clear c0 c1 c2 c3
        obtain ⟨⟨a0, a1, a2, a3⟩, -⟩ := bk4 hF
        have l0 := hQ.lt
        have l1 := hZ.lt
        have l2 := hF.lt
        go_wp2_with fail
        refine (HS.out _).mono ?_
        rintro e w0 ⟨rfl, rfl⟩
        go_wp2_with fail
        ((with_reducible refine (HP.out _ hb).mono ?_); rintro e w1 ⟨rfl, hb1⟩)
        have hQ1 := hQ.old hb1
        have hZ1 := hZ.old hb1
        have hc1 := bl_trans hb hb1
        clear hb1 hQ hZ hF hb a0 a1 a2 a3
        obtain ⟨⟨a0, a1, a2, a3⟩, -⟩ := bk4 hQ1
        have m0 := hQ1.lt
        have m1 := hZ1.lt
        go_wp2_with fail
        refine (join_any x q _).mono ?_
        rintro e w2 ⟨rfl, hb2⟩
        have hZ2 : Bk w2 (w.heap.size + 1) 35 z4 := Mw.Bk.old (by (repeat (first | with_reducible assumption | ((with_reducible refine Mw.Bk.new' ?_); (first | rfl | (simp; done) | (simp; omega))) | with_reducible refine Mw.Bk.alloc ?_ _ | with_reducible refine Mw.Bk.drew ?_ | with_reducible refine Mw.Bk.drewN ?_ _ | with_reducible refine Mw.Bk.set4 (a0 := .int .u32 0) (a1 := .int .u32 0) (a2 := .int .u32 0) (a3 := .int .u32 0) ?_ | ((with_reducible refine Mw.Bk.far ?_ ?_ _); rotate_left 1; focus (first | omega | (simp; done) | (simp; omega))) | with_reducible refine Mw.Bk.old ?_ (by assumption)))) hb2
        have hc2 : Below w.heap.size w w2 := bl_trans (by (repeat (first | with_reducible exact Below.refl _ _ | with_reducible refine bl_drewN ?_ _ | with_reducible refine Below.drew ?_ | with_reducible refine bl_alloc ?_ _ | with_reducible refine Below.alloc ?_ (by first | omega | (simp; done) | (simp; omega)) _ | with_reducible refine Below.setCell ?_ (by first | omega | (simp; done) | (simp; omega)) _ | with_reducible assumption))) hb2
        clear hb2
        obtain ⟨⟨k0, k1, k2, k3⟩, f0, f1, f2, f3⟩ := bk4 hZ2
        go_wp2_with fail
        refine bodyPost_ret (v := .tuple #[dv (jn x q), .bool xb]) (by simp [results, Tryz.results117, go_sem, k0, k1, k2, k3]) rfl ⟨by rw [He.out], ?_⟩
        (repeat (first | with_reducible exact Below.refl _ _ | with_reducible refine bl_drewN ?_ _ | with_reducible refine Below.drew ?_ | with_reducible refine bl_alloc ?_ _ | with_reducible refine Below.alloc ?_ (by first | omega | (simp; done) | (simp; omega)) _ | with_reducible refine Below.setCell ?_ (by first | omega | (simp; done) | (simp; omega)) _ | with_reducible assumption))
    · have hle := lead_r lf i n p h1 h0 (by rw [← hK]; exact hik)
      rw [← hK] at hle
      have He := Lib.hid hle
      have HP := Lib.hid (show ∀ W : World, Below w.heap.size w W → Calls Tryz.prog 117 #[dv lf, .int .i64 ((i : Int) - (K : Int)), .int .i64 ((n : Int) - (K : Int)), .slice (some ⟨b, off, none⟩) L c] W (LD (lead lf (i - K) (n - K) (ini p)) W) from fun W hW => by
        have h6 := ih lf (i - K) (n - K) (ini p) (some ⟨b, off, none⟩) c W (by omega) (by omega) (by omega) (by omega) (by omega) hcm (hri.old hW)
        rw [hil] at h6
        rw [show (((i - K : Nat) : Int)) = ((i : Int) - (K : Int)) by omega, show (((n - K : Nat) : Int)) = ((n : Int) - (K : Int)) by omega] at h6
        exact h6)
      have t1 : decide ((i : Int) < (K : Int)) = false := decide_eq_false (by omega)
      generalize lead lf (i - K) (n - K) (ini p) = X at HP He
      obtain ⟨x, xb⟩ := X
      generalize lst p = q at c0 c1 c2 c3 He
      unfold maxLen at hcm
      clear ih hr hri hlst hle hK hil hL
      go_enter Tryz.func117, Tryz.ntmps117
      go_upto_region 5 with fail
      go_cut [10, 11] (fun s p wx => s = .slice (some ⟨b, off, none⟩) L c ∧ ∃ g, p = .pointer (some ⟨g, 0, none⟩) ∧ Bk wx g 35 (c4 q) ∧ Bk wx w.heap.size 35 (c4 lf) ∧ Bk wx (w.heap.size + 1) 35 z4 ∧ Below w.heap.size w wx)
      case first =>
        go_region_held3 (fun w' => w'.cell? ⟨b, off + L * 4, none⟩ = some (.int .u32 q.1) ∧ w'.cell? ⟨b, off + L * 4 + 1, none⟩ = some (.int .u32 q.2.1) ∧ w'.cell? ⟨b, off + L * 4 + 2, none⟩ = some (.int .u32 q.2.2.1) ∧ w'.cell? ⟨b, off + L * 4 + 3, none⟩ = some (.int .u32 q.2.2.2)) ((refine ⟨?_, ?_, ?_, ?_⟩ <;> (repeat (first | with_reducible assumption | with_reducible refine Mw.cell_alloc ?_ _ | with_reducible refine Mw.cell_drew ?_ | with_reducible refine Mw.cell_far ?_ (by first | assumption | omega | (simp; omega)) _)))) (fail)
        all_goals
          go_wp2_with fail
          go_meet
          exact ⟨rfl, _, rfl, by (repeat (first | with_reducible assumption | ((with_reducible refine Mw.Bk.new' ?_); (first | rfl | (simp; done) | (simp; omega))) | with_reducible refine Mw.Bk.alloc ?_ _ | with_reducible refine Mw.Bk.drew ?_ | with_reducible refine Mw.Bk.drewN ?_ _ | with_reducible refine Mw.Bk.set4 (a0 := .int .u32 0) (a1 := .int .u32 0) (a2 := .int .u32 0) (a3 := .int .u32 0) ?_ | ((with_reducible refine Mw.Bk.far ?_ ?_ _); rotate_left 1; focus (first | omega | (simp; done) | (simp; omega))) | with_reducible refine Mw.Bk.old ?_ (by assumption))), by (repeat (first | with_reducible assumption | ((with_reducible refine Mw.Bk.new' ?_); (first | rfl | (simp; done) | (simp; omega))) | with_reducible refine Mw.Bk.alloc ?_ _ | with_reducible refine Mw.Bk.drew ?_ | with_reducible refine Mw.Bk.drewN ?_ _ | with_reducible refine Mw.Bk.set4 (a0 := .int .u32 0) (a1 := .int .u32 0) (a2 := .int .u32 0) (a3 := .int .u32 0) ?_ | ((with_reducible refine Mw.Bk.far ?_ ?_ _); rotate_left 1; focus (first | omega | (simp; done) | (simp; omega))) | with_reducible refine Mw.Bk.old ?_ (by assumption))), by (repeat (first | with_reducible assumption | ((with_reducible refine Mw.Bk.new' ?_); (first | rfl | (simp; done) | (simp; omega))) | with_reducible refine Mw.Bk.alloc ?_ _ | with_reducible refine Mw.Bk.drew ?_ | with_reducible refine Mw.Bk.drewN ?_ _ | with_reducible refine Mw.Bk.set4 (a0 := .int .u32 0) (a1 := .int .u32 0) (a2 := .int .u32 0) (a3 := .int .u32 0) ?_ | ((with_reducible refine Mw.Bk.far ?_ ?_ _); rotate_left 1; focus (first | omega | (simp; done) | (simp; omega))) | with_reducible refine Mw.Bk.old ?_ (by assumption))), by (repeat (first | with_reducible exact Below.refl _ _ | with_reducible refine bl_drewN ?_ _ | with_reducible refine Below.drew ?_ | with_reducible refine bl_alloc ?_ _ | with_reducible refine Below.alloc ?_ (by first | omega | (simp; done) | (simp; omega)) _ | with_reducible refine Below.setCell ?_ (by first | omega | (simp; done) | (simp; omega)) _ | with_reducible assumption))⟩
      case rest =>
        obtain ⟨rfl, g, rfl, hQ, hF, hZ, hb⟩ := hcut
        clear c0 c1 c2 c3
        obtain ⟨⟨a0, a1, a2, a3⟩, -⟩ := bk4 hF
        have l0 := hQ.lt
        have l1 := hZ.lt
        have l2 := hF.lt
        go_wp2_with fail
        refine (HS.out _).mono ?_
        rintro e w0 ⟨rfl, rfl⟩
        go_wp2_with fail
        ((with_reducible refine (HP.out _ hb).mono ?_); rintro e w1 ⟨rfl, hb1⟩)
        have hQ1 := hQ.old hb1
        have hZ1 := hZ.old hb1
        have hc1 := bl_trans hb hb1
        clear hb1 hQ hZ hF hb a0 a1 a2 a3
        obtain ⟨⟨a0, a1, a2, a3⟩, -⟩ := bk4 hQ1
        have m0 := hQ1.lt
        have m1 := hZ1.lt
        go_wp2_with fail
        refine (join_any q x _).mono ?_
        rintro e w2 ⟨rfl, hb2⟩
        have hZ2 : Bk w2 (w.heap.size + 1) 35 z4 := Mw.Bk.old (by (repeat (first | with_reducible assumption | ((with_reducible refine Mw.Bk.new' ?_); (first | rfl | (simp; done) | (simp; omega))) | with_reducible refine Mw.Bk.alloc ?_ _ | with_reducible refine Mw.Bk.drew ?_ | with_reducible refine Mw.Bk.drewN ?_ _ | with_reducible refine Mw.Bk.set4 (a0 := .int .u32 0) (a1 := .int .u32 0) (a2 := .int .u32 0) (a3 := .int .u32 0) ?_ | ((with_reducible refine Mw.Bk.far ?_ ?_ _); rotate_left 1; focus (first | omega | (simp; done) | (simp; omega))) | with_reducible refine Mw.Bk.old ?_ (by assumption)))) hb2
        have hc2 : Below w.heap.size w w2 := bl_trans (by (repeat (first | with_reducible exact Below.refl _ _ | with_reducible refine bl_drewN ?_ _ | with_reducible refine Below.drew ?_ | with_reducible refine bl_alloc ?_ _ | with_reducible refine Below.alloc ?_ (by first | omega | (simp; done) | (simp; omega)) _ | with_reducible refine Below.setCell ?_ (by first | omega | (simp; done) | (simp; omega)) _ | with_reducible assumption))) hb2
        clear hb2
        obtain ⟨⟨k0, k1, k2, k3⟩, f0, f1, f2, f3⟩ := bk4 hZ2
        go_wp2_with fail
        refine bodyPost_ret (v := .tuple #[dv (jn q x), .bool xb]) (by simp [results, Tryz.results117, go_sem, k0, k1, k2, k3]) rfl ⟨by rw [He.out], ?_⟩
        (repeat (first | with_reducible exact Below.refl _ _ | with_reducible refine bl_drewN ?_ _ | with_reducible refine Below.drew ?_ | with_reducible refine bl_alloc ?_ _ | with_reducible refine Below.alloc ?_ (by first | omega | (simp; done) | (simp; omega)) _ | with_reducible refine Below.setCell ?_ (by first | omega | (simp; done) | (simp; omega)) _ | with_reducible assumption))

set_option maxHeartbeats 1000000 in
theorem rlead_1 (lf : St) (i : Nat) (p : List St) (A : Option Addr) (c : Nat) (w : World) :
    Calls Tryz.prog 100 #[dv lf, .int .i64 (i : Int), .int .i64 1, .slice A p.length c] w (LD (lead lf i 1 p) w) := by
  have He := Lib.hid (lead_1 lf i p)
  go_enter Tryz.func100, Tryz.ntmps100
  go_wp2_with fail
  refine bodyPost_ret (v := .tuple #[dv lf, .bool (p.length == 0)]) (by simp [results, Tryz.results100, go_sem, ieq0]) rfl ⟨by rw [He.out], ?_⟩
  (repeat (first | with_reducible exact Below.refl _ _ | with_reducible refine bl_drewN ?_ _ | with_reducible refine Below.drew ?_ | with_reducible refine bl_alloc ?_ _ | with_reducible refine Below.alloc ?_ (by first | omega | (simp; done) | (simp; omega)) _ | with_reducible refine Below.setCell ?_ (by first | omega | (simp; done) | (simp; omega)) _ | with_reducible assumption))
set_option maxHeartbeats 1000000 in
theorem rlead_0 (lf : St) (i n : Nat) (p : List St) (A : Option Addr) (c : Nat) (w : World) (hn : n ≠ 1) (h0 : p.length = 0) :
    Calls Tryz.prog 100 #[dv lf, .int .i64 (i : Int), .int .i64 (n : Int), .slice A p.length c] w (LD (lead lf i n p) w) := by
  have He := Lib.hid (lead_0 lf i n p hn h0)
  have n1 : ((n : Int) == 1) = false := beq_eq_false_iff_ne.2 (by omega)
  rw [h0]
  go_enter Tryz.func100, Tryz.ntmps100
  go_wp2_with fail
  refine bodyPost_ret (v := .tuple #[dv (0, 0, 0, 0), .bool false]) (by simp [results, Tryz.results100, go_sem]) rfl ⟨by rw [He.out], ?_⟩
  (repeat (first | with_reducible exact Below.refl _ _ | with_reducible refine bl_drewN ?_ _ | with_reducible refine Below.drew ?_ | with_reducible refine bl_alloc ?_ _ | with_reducible refine Below.alloc ?_ (by first | omega | (simp; done) | (simp; omega)) _ | with_reducible refine Below.setCell ?_ (by first | omega | (simp; done) | (simp; omega)) _ | with_reducible assumption))
set_option maxHeartbeats 2000000 in
theorem rlead_ind (f : Nat) : ∀ (lf : St) (i n : Nat) (p : List St) (A : Option Addr) (c : Nat) (w : World), p.length ≤ f → i < n → n ≤ 1000000 → p.length ≤ 1000000 → p.length ≤ c → c ≤ maxLen → RdD w A p →
    Calls Tryz.prog 100 #[dv lf, .int .i64 (i : Int), .int .i64 (n : Int), .slice A p.length c] w (LD (lead lf i n p) w) := by
  induction f with
  | zero =>
    intro lf i n p A c w hf hi hn hp hpc hcm hr
    by_cases h1 : n = 1
    · subst h1; exact rlead_1 lf i p A c w
    · exact rlead_0 lf i n p A c w h1 (by omega)
  | succ f ih =>
    intro lf i n p A c w hf hi hn hp hpc hcm hr
    by_cases h1 : n = 1
    · subst h1; exact rlead_1 lf i p A c w
    by_cases h0 : p.length = 0
    · exact rlead_0 lf i n p A c w h1 h0
    have n1 : ((n : Int) == 1) = false := beq_eq_false_iff_ne.2 (by omega)
    have n0 : ((p.length : Int) == 0) = false := beq_eq_false_iff_ne.2 (by omega)
    obtain ⟨b, off, rfl, hbl, c0, c1, c2, c3⟩ := hr.at (p.length - 1) (by omega)
    obtain ⟨L, hL⟩ : ∃ L, L = p.length - 1 := ⟨_, rfl⟩
    have hw : IntKind.i64.wrap ((p.length : Int) - 1) = (L : Int) := by rw [IntWalk.i64_in _ (by omega)]; omega
    have hil : (ini p).length = L := by rw [ini_len, hL]
    have hri : RdD w (some ⟨b, off, none⟩) (ini p) := hr.take _
    have hlst : gd p (p.length - 1) = lst p := rfl
    rw [hlst, ← hL] at c0 c1 c2 c3
    have h4 := spl_pos (n := n) (by omega)
    have h5 := spl_lt (n := n) (by omega)
    obtain ⟨K, hK⟩ : ∃ K, K = spl n := ⟨_, rfl⟩
    have HS := Lib.hid (show ∀ W : World, Calls Tryz.prog 97 #[.int .i64 (n : Int)] W fun e w' => e = .returned (.int .i64 (K : Int)) ∧ W = w' by
      intro W
      have h6 := rsplit_any (n : Int) (I64n _ (by omega)) W
      rw [splI_nat, ← hK] at h6
      exact h6)
    have k1 : (0 : Int) ≤ (L : Int) := by omega
    have k2 : (L : Int) < (p.length : Int) := by omega
    have k3 : (L : Int) ≤ (c : Int) := by omega
    have k4 : L < p.length := by omega
    have hne : ¬ b = w.heap.size := by omega
    have hne1 : ¬ w.heap.size = b := by omega
    have hne2 : w.heap.size + 1 ≠ b := by omega
    have hne3 : w.heap.size + 2 ≠ b := by omega
    have hne4 : w.heap.size + 1 + 1 ≠ b := by omega
    rw [← hK] at h4 h5
    by_cases hik : i < K
    · have hle := lead_l lf i n p h1 h0 (by rw [← hK]; exact hik)
      rw [← hK] at hle
      have He := Lib.hid hle
      have HP := Lib.hid (show ∀ W : World, Below w.heap.size w W → Calls Tryz.prog 100 #[dv lf, .int .i64 (i : Int), .int .i64 (K : Int), .slice (some ⟨b, off, none⟩) L c] W (LD (lead lf i K (ini p)) W) from fun W hW => by
        have h6 := ih lf i K (ini p) (some ⟨b, off, none⟩) c W (by omega) (by omega) (by omega) (by omega) (by omega) hcm (hri.old hW)
        rw [hil] at h6
        exact h6)
      have t1 : decide ((i : Int) < (K : Int)) = true := decide_eq_true (by omega)
      generalize lead lf i K (ini p) = X at HP He
      obtain ⟨x, xb⟩ := X
      generalize lst p = q at c0 c1 c2 c3 He
      unfold maxLen at hcm
      clear ih hr hri hlst hle hK hil hL
      go_enter Tryz.func100, Tryz.ntmps100
      go_upto_region 5 with fail
      go_cut [10, 11] (fun s p wx => s = .int .i64 (K : Int) ∧ ∃ g, p = .pointer (some ⟨g, 0, none⟩) ∧ Bk wx g 35 (c4 q) ∧ Bk wx w.heap.size 35 (c4 lf) ∧ Bk wx (w.heap.size + 1) 35 z4 ∧ Below w.heap.size w wx)
      case first =>
        go_region_held3 (fun w' => w'.cell? ⟨b, off + L * 4, none⟩ = some (.int .u32 q.1) ∧ w'.cell? ⟨b, off + L * 4 + 1, none⟩ = some (.int .u32 q.2.1) ∧ w'.cell? ⟨b, off + L * 4 + 2, none⟩ = some (.int .u32 q.2.2.1) ∧ w'.cell? ⟨b, off + L * 4 + 3, none⟩ = some (.int .u32 q.2.2.2)) ((refine ⟨?_, ?_, ?_, ?_⟩ <;> (repeat (first | with_reducible assumption | with_reducible refine Mw.cell_alloc ?_ _ | with_reducible refine Mw.cell_drew ?_ | with_reducible refine Mw.cell_far ?_ (by first | assumption | omega | (simp; omega)) _)))) ((go_at_call 97; refine (HS.out _).mono ?_; rintro e w0 ⟨rfl, rfl⟩))
        all_goals
          go_wp2_with fail
          go_meet
          exact ⟨rfl, _, rfl, by (repeat (first | with_reducible assumption | ((with_reducible refine Mw.Bk.new' ?_); (first | rfl | (simp; done) | (simp; omega))) | with_reducible refine Mw.Bk.alloc ?_ _ | with_reducible refine Mw.Bk.drew ?_ | with_reducible refine Mw.Bk.drewN ?_ _ | with_reducible refine Mw.Bk.set4 (a0 := .int .u32 0) (a1 := .int .u32 0) (a2 := .int .u32 0) (a3 := .int .u32 0) ?_ | ((with_reducible refine Mw.Bk.far ?_ ?_ _); rotate_left 1; focus (first | omega | (simp; done) | (simp; omega))) | with_reducible refine Mw.Bk.old ?_ (by assumption))), by (repeat (first | with_reducible assumption | ((with_reducible refine Mw.Bk.new' ?_); (first | rfl | (simp; done) | (simp; omega))) | with_reducible refine Mw.Bk.alloc ?_ _ | with_reducible refine Mw.Bk.drew ?_ | with_reducible refine Mw.Bk.drewN ?_ _ | with_reducible refine Mw.Bk.set4 (a0 := .int .u32 0) (a1 := .int .u32 0) (a2 := .int .u32 0) (a3 := .int .u32 0) ?_ | ((with_reducible refine Mw.Bk.far ?_ ?_ _); rotate_left 1; focus (first | omega | (simp; done) | (simp; omega))) | with_reducible refine Mw.Bk.old ?_ (by assumption))), by (repeat (first | with_reducible assumption | ((with_reducible refine Mw.Bk.new' ?_); (first | rfl | (simp; done) | (simp; omega))) | with_reducible refine Mw.Bk.alloc ?_ _ | with_reducible refine Mw.Bk.drew ?_ | with_reducible refine Mw.Bk.drewN ?_ _ | with_reducible refine Mw.Bk.set4 (a0 := .int .u32 0) (a1 := .int .u32 0) (a2 := .int .u32 0) (a3 := .int .u32 0) ?_ | ((with_reducible refine Mw.Bk.far ?_ ?_ _); rotate_left 1; focus (first | omega | (simp; done) | (simp; omega))) | with_reducible refine Mw.Bk.old ?_ (by assumption))), by (repeat (first | with_reducible exact Below.refl _ _ | with_reducible refine bl_drewN ?_ _ | with_reducible refine Below.drew ?_ | with_reducible refine bl_alloc ?_ _ | with_reducible refine Below.alloc ?_ (by first | omega | (simp; done) | (simp; omega)) _ | with_reducible refine Below.setCell ?_ (by first | omega | (simp; done) | (simp; omega)) _ | with_reducible assumption))⟩
      case rest =>
        obtain ⟨rfl, g, rfl, hQ, hF, hZ, hb⟩ := hcut
        clear c0 c1 c2 c3
        obtain ⟨⟨a0, a1, a2, a3⟩, -⟩ := bk4 hF
        have l0 := hQ.lt
        have l1 := hZ.lt
        have l2 := hF.lt
        go_upto_region 7 with fail
        go_cut [12, 13] (fun p o wx => o = .bool xb ∧ ∃ h, p = .pointer (some ⟨h, 0, none⟩) ∧ Bk wx h 35 (c4 x) ∧ Bk wx g 35 (c4 q) ∧ Bk wx (w.heap.size + 1) 35 z4 ∧ Below w.heap.size w wx)
        case first =>
          go_region_held3 (fun w' => w'.cell? ⟨w.heap.size, 0, none⟩ = some (.int .u32 lf.1) ∧ w'.cell? ⟨w.heap.size, 1, none⟩ = some (.int .u32 lf.2.1) ∧ w'.cell? ⟨w.heap.size, 2, none⟩ = some (.int .u32 lf.2.2.1) ∧ w'.cell? ⟨w.heap.size, 3, none⟩ = some (.int .u32 lf.2.2.2)) ((refine ⟨?_, ?_, ?_, ?_⟩ <;> (repeat (first | with_reducible assumption | with_reducible refine Mw.cell_alloc ?_ _ | with_reducible refine Mw.cell_drew ?_ | with_reducible refine Mw.cell_far ?_ (by first | assumption | omega | (simp; omega)) _)))) ((go_at_call 100; (with_reducible refine (HP.out _ (by (repeat (first | with_reducible exact Below.refl _ _ | with_reducible refine bl_drewN ?_ _ | with_reducible refine Below.drew ?_ | with_reducible refine bl_alloc ?_ _ | with_reducible refine Below.alloc ?_ (by first | omega | (simp; done) | (simp; omega)) _ | with_reducible refine Below.setCell ?_ (by first | omega | (simp; done) | (simp; omega)) _ | with_reducible assumption)))).mono ?_); rintro e w1 ⟨rfl, hb1⟩; have hQ1 : Bk w1 g 35 (c4 q) := Mw.Bk.old (by (repeat (first | with_reducible assumption | ((with_reducible refine Mw.Bk.new' ?_); (first | rfl | (simp; done) | (simp; omega))) | with_reducible refine Mw.Bk.alloc ?_ _ | with_reducible refine Mw.Bk.drew ?_ | with_reducible refine Mw.Bk.drewN ?_ _ | with_reducible refine Mw.Bk.set4 (a0 := .int .u32 0) (a1 := .int .u32 0) (a2 := .int .u32 0) (a3 := .int .u32 0) ?_ | ((with_reducible refine Mw.Bk.far ?_ ?_ _); rotate_left 1; focus (first | omega | (simp; done) | (simp; omega))) | with_reducible refine Mw.Bk.old ?_ (by assumption)))) hb1; have hZ1 : Bk w1 (w.heap.size + 1) 35 z4 := Mw.Bk.old (by (repeat (first | with_reducible assumption | ((with_reducible refine Mw.Bk.new' ?_); (first | rfl | (simp; done) | (simp; omega))) | with_reducible refine Mw.Bk.alloc ?_ _ | with_reducible refine Mw.Bk.drew ?_ | with_reducible refine Mw.Bk.drewN ?_ _ | with_reducible refine Mw.Bk.set4 (a0 := .int .u32 0) (a1 := .int .u32 0) (a2 := .int .u32 0) (a3 := .int .u32 0) ?_ | ((with_reducible refine Mw.Bk.far ?_ ?_ _); rotate_left 1; focus (first | omega | (simp; done) | (simp; omega))) | with_reducible refine Mw.Bk.old ?_ (by assumption)))) hb1; have hF1 : Bk w1 w.heap.size 35 (c4 lf) := Mw.Bk.old (by (repeat (first | with_reducible assumption | ((with_reducible refine Mw.Bk.new' ?_); (first | rfl | (simp; done) | (simp; omega))) | with_reducible refine Mw.Bk.alloc ?_ _ | with_reducible refine Mw.Bk.drew ?_ | with_reducible refine Mw.Bk.drewN ?_ _ | with_reducible refine Mw.Bk.set4 (a0 := .int .u32 0) (a1 := .int .u32 0) (a2 := .int .u32 0) (a3 := .int .u32 0) ?_ | ((with_reducible refine Mw.Bk.far ?_ ?_ _); rotate_left 1; focus (first | omega | (simp; done) | (simp; omega))) | with_reducible refine Mw.Bk.old ?_ (by assumption)))) hb1; have hc1 : Below w.heap.size w w1 := bl_trans (by (repeat (first | with_reducible exact Below.refl _ _ | with_reducible refine bl_drewN ?_ _ | with_reducible refine Below.drew ?_ | with_reducible refine bl_alloc ?_ _ | with_reducible refine Below.alloc ?_ (by first | omega | (simp; done) | (simp; omega)) _ | with_reducible refine Below.setCell ?_ (by first | omega | (simp; done) | (simp; omega)) _ | with_reducible assumption))) hb1; have m0 := hQ1.lt; have m1 := hZ1.lt; have m2 := hF1.lt; obtain ⟨⟨a10, a11, a12, a13⟩, -⟩ := bk4 hF1; (try have hN1 : Bk w1 wc.heap.size 35 z4 := Mw.Bk.old (Mw.Bk.drew (Mw.Bk.new _ _ _)) hb1); (try (have m3 := hN1.lt; obtain ⟨⟨u0, u1, u2, u3⟩, v0, v1, v2, v3⟩ := bk4 hN1))))
          all_goals
            go_wp2_with fail
            go_meet
            exact ⟨rfl, _, rfl, by (repeat (first | with_reducible assumption | ((with_reducible refine Mw.Bk.new' ?_); (first | rfl | (simp; done) | (simp; omega))) | with_reducible refine Mw.Bk.alloc ?_ _ | with_reducible refine Mw.Bk.drew ?_ | with_reducible refine Mw.Bk.drewN ?_ _ | with_reducible refine Mw.Bk.set4 (a0 := .int .u32 0) (a1 := .int .u32 0) (a2 := .int .u32 0) (a3 := .int .u32 0) ?_ | ((with_reducible refine Mw.Bk.far ?_ ?_ _); rotate_left 1; focus (first | omega | (simp; done) | (simp; omega))) | with_reducible refine Mw.Bk.old ?_ (by assumption))), by (repeat (first | with_reducible assumption | ((with_reducible refine Mw.Bk.new' ?_); (first | rfl | (simp; done) | (simp; omega))) | with_reducible refine Mw.Bk.alloc ?_ _ | with_reducible refine Mw.Bk.drew ?_ | with_reducible refine Mw.Bk.drewN ?_ _ | with_reducible refine Mw.Bk.set4 (a0 := .int .u32 0) (a1 := .int .u32 0) (a2 := .int .u32 0) (a3 := .int .u32 0) ?_ | ((with_reducible refine Mw.Bk.far ?_ ?_ _); rotate_left 1; focus (first | omega | (simp; done) | (simp; omega))) | with_reducible refine Mw.Bk.old ?_ (by assumption))), by (repeat (first | with_reducible assumption | ((with_reducible refine Mw.Bk.new' ?_); (first | rfl | (simp; done) | (simp; omega))) | with_reducible refine Mw.Bk.alloc ?_ _ | with_reducible refine Mw.Bk.drew ?_ | with_reducible refine Mw.Bk.drewN ?_ _ | with_reducible refine Mw.Bk.set4 (a0 := .int .u32 0) (a1 := .int .u32 0) (a2 := .int .u32 0) (a3 := .int .u32 0) ?_ | ((with_reducible refine Mw.Bk.far ?_ ?_ _); rotate_left 1; focus (first | omega | (simp; done) | (simp; omega))) | with_reducible refine Mw.Bk.old ?_ (by assumption))), by (repeat (first | with_reducible exact Below.refl _ _ | with_reducible refine bl_drewN ?_ _ | with_reducible refine Below.drew ?_ | with_reducible refine bl_alloc ?_ _ | with_reducible refine Below.alloc ?_ (by first | omega | (simp; done) | (simp; omega)) _ | with_reducible refine Below.setCell ?_ (by first | omega | (simp; done) | (simp; omega)) _ | with_reducible assumption))⟩
        case rest =>
          clear a0 a1 a2 a3 hQ hF hZ hb
          obtain ⟨rfl, h, rfl, hX, hQ, hZ, hb⟩ := hcut
          obtain ⟨⟨a0, a1, a2, a3⟩, -⟩ := bk4 hX
          obtain ⟨⟨b0, b1, b2, b3⟩, -⟩ := bk4 hQ
          have m0 := hX.lt
          have m1 := hQ.lt
          have m2 := hZ.lt
          go_wp2_with fail
          refine (rjoin_any x q _).mono ?_
          rintro e w2 ⟨rfl, hb2⟩
          have hZ2 : Bk w2 (w.heap.size + 1) 35 z4 := Mw.Bk.old (by (repeat (first | with_reducible assumption | ((with_reducible refine Mw.Bk.new' ?_); (first | rfl | (simp; done) | (simp; omega))) | with_reducible refine Mw.Bk.alloc ?_ _ | with_reducible refine Mw.Bk.drew ?_ | with_reducible refine Mw.Bk.drewN ?_ _ | with_reducible refine Mw.Bk.set4 (a0 := .int .u32 0) (a1 := .int .u32 0) (a2 := .int .u32 0) (a3 := .int .u32 0) ?_ | ((with_reducible refine Mw.Bk.far ?_ ?_ _); rotate_left 1; focus (first | omega | (simp; done) | (simp; omega))) | with_reducible refine Mw.Bk.old ?_ (by assumption)))) hb2
          have hc2 : Below w.heap.size w w2 := bl_trans (by (repeat (first | with_reducible exact Below.refl _ _ | with_reducible refine bl_drewN ?_ _ | with_reducible refine Below.drew ?_ | with_reducible refine bl_alloc ?_ _ | with_reducible refine Below.alloc ?_ (by first | omega | (simp; done) | (simp; omega)) _ | with_reducible refine Below.setCell ?_ (by first | omega | (simp; done) | (simp; omega)) _ | with_reducible assumption))) hb2
          clear hb2
          obtain ⟨⟨k0, k1, k2, k3⟩, f0, f1, f2, f3⟩ := bk4 hZ2
          go_wp2_with fail
          refine bodyPost_ret (v := .tuple #[dv (jn x q), .bool xb]) (by simp [results, Tryz.results100, go_sem, k0, k1, k2, k3]) rfl ⟨by rw [He.out], ?_⟩
          (repeat (first | with_reducible exact Below.refl _ _ | with_reducible refine bl_drewN ?_ _ | with_reducible refine Below.drew ?_ | with_reducible refine bl_alloc ?_ _ | with_reducible refine Below.alloc ?_ (by first | omega | (simp; done) | (simp; omega)) _ | with_reducible refine Below.setCell ?_ (by first | omega | (simp; done) | (simp; omega)) _ | with_reducible assumption))
    · have hle := lead_r lf i n p h1 h0 (by rw [← hK]; exact hik)
      rw [← hK] at hle
      have He := Lib.hid hle
      have HP := Lib.hid (show ∀ W : World, Below w.heap.size w W → Calls Tryz.prog 100 #[dv lf, .int .i64 (IntKind.i64.wrap ((i : Int) - (K : Int))), .int .i64 (IntKind.i64.wrap ((n : Int) - (K : Int))), .slice (some ⟨b, off, none⟩) L c] W (LD (lead lf (i - K) (n - K) (ini p)) W) from fun W hW => by
        have h6 := ih lf (i - K) (n - K) (ini p) (some ⟨b, off, none⟩) c W (by omega) (by omega) (by omega) (by omega) (by omega) hcm (hri.old hW)
        rw [hil] at h6
        rw [show (((i - K : Nat) : Int)) = (IntKind.i64.wrap ((i : Int) - (K : Int))) by rw [IntWalk.i64_in _ (by omega)]; omega, show (((n - K : Nat) : Int)) = (IntKind.i64.wrap ((n : Int) - (K : Int))) by rw [IntWalk.i64_in _ (by omega)]; omega] at h6
        exact h6)
      have t1 : decide ((i : Int) < (K : Int)) = false := decide_eq_false (by omega)
      generalize lead lf (i - K) (n - K) (ini p) = X at HP He
      obtain ⟨x, xb⟩ := X
      generalize lst p = q at c0 c1 c2 c3 He
      unfold maxLen at hcm
      clear ih hr hri hlst hle hK hil hL
      go_enter Tryz.func100, Tryz.ntmps100
      go_upto_region 5 with fail
      go_cut [10, 11] (fun s p wx => s = .int .i64 (K : Int) ∧ ∃ g, p = .pointer (some ⟨g, 0, none⟩) ∧ Bk wx g 35 (c4 q) ∧ Bk wx w.heap.size 35 (c4 lf) ∧ Bk wx (w.heap.size + 1) 35 z4 ∧ Below w.heap.size w wx)
      case first =>
        go_region_held3 (fun w' => w'.cell? ⟨b, off + L * 4, none⟩ = some (.int .u32 q.1) ∧ w'.cell? ⟨b, off + L * 4 + 1, none⟩ = some (.int .u32 q.2.1) ∧ w'.cell? ⟨b, off + L * 4 + 2, none⟩ = some (.int .u32 q.2.2.1) ∧ w'.cell? ⟨b, off + L * 4 + 3, none⟩ = some (.int .u32 q.2.2.2)) ((refine ⟨?_, ?_, ?_, ?_⟩ <;> (repeat (first | with_reducible assumption | with_reducible refine Mw.cell_alloc ?_ _ | with_reducible refine Mw.cell_drew ?_ | with_reducible refine Mw.cell_far ?_ (by first | assumption | omega | (simp; omega)) _)))) ((go_at_call 97; refine (HS.out _).mono ?_; rintro e w0 ⟨rfl, rfl⟩))
        all_goals
          go_wp2_with fail
          go_meet
          exact ⟨rfl, _, rfl, by (repeat (first | with_reducible assumption | ((with_reducible refine Mw.Bk.new' ?_); (first | rfl | (simp; done) | (simp; omega))) | with_reducible refine Mw.Bk.alloc ?_ _ | with_reducible refine Mw.Bk.drew ?_ | with_reducible refine Mw.Bk.drewN ?_ _ | with_reducible refine Mw.Bk.set4 (a0 := .int .u32 0) (a1 := .int .u32 0) (a2 := .int .u32 0) (a3 := .int .u32 0) ?_ | ((with_reducible refine Mw.Bk.far ?_ ?_ _); rotate_left 1; focus (first | omega | (simp; done) | (simp; omega))) | with_reducible refine Mw.Bk.old ?_ (by assumption))), by (repeat (first | with_reducible assumption | ((with_reducible refine Mw.Bk.new' ?_); (first | rfl | (simp; done) | (simp; omega))) | with_reducible refine Mw.Bk.alloc ?_ _ | with_reducible refine Mw.Bk.drew ?_ | with_reducible refine Mw.Bk.drewN ?_ _ | with_reducible refine Mw.Bk.set4 (a0 := .int .u32 0) (a1 := .int .u32 0) (a2 := .int .u32 0) (a3 := .int .u32 0) ?_ | ((with_reducible refine Mw.Bk.far ?_ ?_ _); rotate_left 1; focus (first | omega | (simp; done) | (simp; omega))) | with_reducible refine Mw.Bk.old ?_ (by assumption))), by (repeat (first | with_reducible assumption | ((with_reducible refine Mw.Bk.new' ?_); (first | rfl | (simp; done) | (simp; omega))) | with_reducible refine Mw.Bk.alloc ?_ _ | with_reducible refine Mw.Bk.drew ?_ | with_reducible refine Mw.Bk.drewN ?_ _ | with_reducible refine Mw.Bk.set4 (a0 := .int .u32 0) (a1 := .int .u32 0) (a2 := .int .u32 0) (a3 := .int .u32 0) ?_ | ((with_reducible refine Mw.Bk.far ?_ ?_ _); rotate_left 1; focus (first | omega | (simp; done) | (simp; omega))) | with_reducible refine Mw.Bk.old ?_ (by assumption))), by (repeat (first | with_reducible exact Below.refl _ _ | with_reducible refine bl_drewN ?_ _ | with_reducible refine Below.drew ?_ | with_reducible refine bl_alloc ?_ _ | with_reducible refine Below.alloc ?_ (by first | omega | (simp; done) | (simp; omega)) _ | with_reducible refine Below.setCell ?_ (by first | omega | (simp; done) | (simp; omega)) _ | with_reducible assumption))⟩
      case rest =>
        obtain ⟨rfl, g, rfl, hQ, hF, hZ, hb⟩ := hcut
        clear c0 c1 c2 c3
        obtain ⟨⟨a0, a1, a2, a3⟩, -⟩ := bk4 hF
        have l0 := hQ.lt
        have l1 := hZ.lt
        have l2 := hF.lt
        go_upto_region 9 with fail
        go_cut [14, 15] (fun p o wx => o = .bool xb ∧ ∃ h, p = .pointer (some ⟨h, 0, none⟩) ∧ Bk wx h 35 (c4 x) ∧ Bk wx g 35 (c4 q) ∧ Bk wx (w.heap.size + 1) 35 z4 ∧ Below w.heap.size w wx)
        case first =>
          go_region_held3 (fun w' => w'.cell? ⟨w.heap.size, 0, none⟩ = some (.int .u32 lf.1) ∧ w'.cell? ⟨w.heap.size, 1, none⟩ = some (.int .u32 lf.2.1) ∧ w'.cell? ⟨w.heap.size, 2, none⟩ = some (.int .u32 lf.2.2.1) ∧ w'.cell? ⟨w.heap.size, 3, none⟩ = some (.int .u32 lf.2.2.2)) ((refine ⟨?_, ?_, ?_, ?_⟩ <;> (repeat (first | with_reducible assumption | with_reducible refine Mw.cell_alloc ?_ _ | with_reducible refine Mw.cell_drew ?_ | with_reducible refine Mw.cell_far ?_ (by first | assumption | omega | (simp; omega)) _)))) ((go_at_call 100; (with_reducible refine (HP.out _ (by (repeat (first | with_reducible exact Below.refl _ _ | with_reducible refine bl_drewN ?_ _ | with_reducible refine Below.drew ?_ | with_reducible refine bl_alloc ?_ _ | with_reducible refine Below.alloc ?_ (by first | omega | (simp; done) | (simp; omega)) _ | with_reducible refine Below.setCell ?_ (by first | omega | (simp; done) | (simp; omega)) _ | with_reducible assumption)))).mono ?_); rintro e w1 ⟨rfl, hb1⟩; have hQ1 : Bk w1 g 35 (c4 q) := Mw.Bk.old (by (repeat (first | with_reducible assumption | ((with_reducible refine Mw.Bk.new' ?_); (first | rfl | (simp; done) | (simp; omega))) | with_reducible refine Mw.Bk.alloc ?_ _ | with_reducible refine Mw.Bk.drew ?_ | with_reducible refine Mw.Bk.drewN ?_ _ | with_reducible refine Mw.Bk.set4 (a0 := .int .u32 0) (a1 := .int .u32 0) (a2 := .int .u32 0) (a3 := .int .u32 0) ?_ | ((with_reducible refine Mw.Bk.far ?_ ?_ _); rotate_left 1; focus (first | omega | (simp; done) | (simp; omega))) | with_reducible refine Mw.Bk.old ?_ (by assumption)))) hb1; have hZ1 : Bk w1 (w.heap.size + 1) 35 z4 := Mw.Bk.old (by (repeat (first | with_reducible assumption | ((with_reducible refine Mw.Bk.new' ?_); (first | rfl | (simp; done) | (simp; omega))) | with_reducible refine Mw.Bk.alloc ?_ _ | with_reducible refine Mw.Bk.drew ?_ | with_reducible refine Mw.Bk.drewN ?_ _ | with_reducible refine Mw.Bk.set4 (a0 := .int .u32 0) (a1 := .int .u32 0) (a2 := .int .u32 0) (a3 := .int .u32 0) ?_ | ((with_reducible refine Mw.Bk.far ?_ ?_ _); rotate_left 1; focus (first | omega | (simp; done) | (simp; omega))) | with_reducible refine Mw.Bk.old ?_ (by assumption)))) hb1; have hF1 : Bk w1 w.heap.size 35 (c4 lf) := Mw.Bk.old (by (repeat (first | with_reducible assumption | ((with_reducible refine Mw.Bk.new' ?_); (first | rfl | (simp; done) | (simp; omega))) | with_reducible refine Mw.Bk.alloc ?_ _ | with_reducible refine Mw.Bk.drew ?_ | with_reducible refine Mw.Bk.drewN ?_ _ | with_reducible refine Mw.Bk.set4 (a0 := .int .u32 0) (a1 := .int .u32 0) (a2 := .int .u32 0) (a3 := .int .u32 0) ?_ | ((with_reducible refine Mw.Bk.far ?_ ?_ _); rotate_left 1; focus (first | omega | (simp; done) | (simp; omega))) | with_reducible refine Mw.Bk.old ?_ (by assumption)))) hb1; have hc1 : Below w.heap.size w w1 := bl_trans (by (repeat (first | with_reducible exact Below.refl _ _ | with_reducible refine bl_drewN ?_ _ | with_reducible refine Below.drew ?_ | with_reducible refine bl_alloc ?_ _ | with_reducible refine Below.alloc ?_ (by first | omega | (simp; done) | (simp; omega)) _ | with_reducible refine Below.setCell ?_ (by first | omega | (simp; done) | (simp; omega)) _ | with_reducible assumption))) hb1; have m0 := hQ1.lt; have m1 := hZ1.lt; have m2 := hF1.lt; obtain ⟨⟨a10, a11, a12, a13⟩, -⟩ := bk4 hF1; (try have hN1 : Bk w1 wc.heap.size 35 z4 := Mw.Bk.old (Mw.Bk.drew (Mw.Bk.new _ _ _)) hb1); (try (have m3 := hN1.lt; obtain ⟨⟨u0, u1, u2, u3⟩, v0, v1, v2, v3⟩ := bk4 hN1))))
          all_goals
            go_wp2_with fail
            go_meet
            exact ⟨rfl, _, rfl, by (repeat (first | with_reducible assumption | ((with_reducible refine Mw.Bk.new' ?_); (first | rfl | (simp; done) | (simp; omega))) | with_reducible refine Mw.Bk.alloc ?_ _ | with_reducible refine Mw.Bk.drew ?_ | with_reducible refine Mw.Bk.drewN ?_ _ | with_reducible refine Mw.Bk.set4 (a0 := .int .u32 0) (a1 := .int .u32 0) (a2 := .int .u32 0) (a3 := .int .u32 0) ?_ | ((with_reducible refine Mw.Bk.far ?_ ?_ _); rotate_left 1; focus (first | omega | (simp; done) | (simp; omega))) | with_reducible refine Mw.Bk.old ?_ (by assumption))), by (repeat (first | with_reducible assumption | ((with_reducible refine Mw.Bk.new' ?_); (first | rfl | (simp; done) | (simp; omega))) | with_reducible refine Mw.Bk.alloc ?_ _ | with_reducible refine Mw.Bk.drew ?_ | with_reducible refine Mw.Bk.drewN ?_ _ | with_reducible refine Mw.Bk.set4 (a0 := .int .u32 0) (a1 := .int .u32 0) (a2 := .int .u32 0) (a3 := .int .u32 0) ?_ | ((with_reducible refine Mw.Bk.far ?_ ?_ _); rotate_left 1; focus (first | omega | (simp; done) | (simp; omega))) | with_reducible refine Mw.Bk.old ?_ (by assumption))), by (repeat (first | with_reducible assumption | ((with_reducible refine Mw.Bk.new' ?_); (first | rfl | (simp; done) | (simp; omega))) | with_reducible refine Mw.Bk.alloc ?_ _ | with_reducible refine Mw.Bk.drew ?_ | with_reducible refine Mw.Bk.drewN ?_ _ | with_reducible refine Mw.Bk.set4 (a0 := .int .u32 0) (a1 := .int .u32 0) (a2 := .int .u32 0) (a3 := .int .u32 0) ?_ | ((with_reducible refine Mw.Bk.far ?_ ?_ _); rotate_left 1; focus (first | omega | (simp; done) | (simp; omega))) | with_reducible refine Mw.Bk.old ?_ (by assumption))), by (repeat (first | with_reducible exact Below.refl _ _ | with_reducible refine bl_drewN ?_ _ | with_reducible refine Below.drew ?_ | with_reducible refine bl_alloc ?_ _ | with_reducible refine Below.alloc ?_ (by first | omega | (simp; done) | (simp; omega)) _ | with_reducible refine Below.setCell ?_ (by first | omega | (simp; done) | (simp; omega)) _ | with_reducible assumption))⟩
        case rest =>
          clear a0 a1 a2 a3 hQ hF hZ hb
          obtain ⟨rfl, h, rfl, hX, hQ, hZ, hb⟩ := hcut
          obtain ⟨⟨a0, a1, a2, a3⟩, -⟩ := bk4 hX
          obtain ⟨⟨b0, b1, b2, b3⟩, -⟩ := bk4 hQ
          have m0 := hX.lt
          have m1 := hQ.lt
          have m2 := hZ.lt
          go_wp2_with fail
          refine (rjoin_any q x _).mono ?_
          rintro e w2 ⟨rfl, hb2⟩
          have hZ2 : Bk w2 (w.heap.size + 1) 35 z4 := Mw.Bk.old (by (repeat (first | with_reducible assumption | ((with_reducible refine Mw.Bk.new' ?_); (first | rfl | (simp; done) | (simp; omega))) | with_reducible refine Mw.Bk.alloc ?_ _ | with_reducible refine Mw.Bk.drew ?_ | with_reducible refine Mw.Bk.drewN ?_ _ | with_reducible refine Mw.Bk.set4 (a0 := .int .u32 0) (a1 := .int .u32 0) (a2 := .int .u32 0) (a3 := .int .u32 0) ?_ | ((with_reducible refine Mw.Bk.far ?_ ?_ _); rotate_left 1; focus (first | omega | (simp; done) | (simp; omega))) | with_reducible refine Mw.Bk.old ?_ (by assumption)))) hb2
          have hc2 : Below w.heap.size w w2 := bl_trans (by (repeat (first | with_reducible exact Below.refl _ _ | with_reducible refine bl_drewN ?_ _ | with_reducible refine Below.drew ?_ | with_reducible refine bl_alloc ?_ _ | with_reducible refine Below.alloc ?_ (by first | omega | (simp; done) | (simp; omega)) _ | with_reducible refine Below.setCell ?_ (by first | omega | (simp; done) | (simp; omega)) _ | with_reducible assumption))) hb2
          clear hb2
          obtain ⟨⟨k0, k1, k2, k3⟩, f0, f1, f2, f3⟩ := bk4 hZ2
          go_wp2_with fail
          refine bodyPost_ret (v := .tuple #[dv (jn q x), .bool xb]) (by simp [results, Tryz.results100, go_sem, k0, k1, k2, k3]) rfl ⟨by rw [He.out], ?_⟩
          (repeat (first | with_reducible exact Below.refl _ _ | with_reducible refine bl_drewN ?_ _ | with_reducible refine Below.drew ?_ | with_reducible refine bl_alloc ?_ _ | with_reducible refine Below.alloc ?_ (by first | omega | (simp; done) | (simp; omega)) _ | with_reducible refine Below.setCell ?_ (by first | omega | (simp; done) | (simp; omega)) _ | with_reducible assumption))
end Go.Proofs.YtdikoffppjoomaaGreat.Tr
