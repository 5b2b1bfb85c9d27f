/- Walks: roots of the program and follow of the reference. -/
import Derived.Test.YtdikoffppjoomaaGreatRF
import Derived.Test.YtdikoffppjoomaaGreatRN
import Derived.Test.YtdikoffppjoomaaGreatAM
import Derived.WalkKit
import Derived.WalkSpells
import Derived.WalkLawsBesides
import Derived.Deep.QuietTactic
import Derived.BigQuiet
import Derived.Deep.Draws
import Derived.Deep.AppendLies
import Derived.Laws.OwnMore
import Derived.Laws.BytesArg
import Derived.Lib.Hide
import Derived.Deep.LoopGhost
import Derived.Deep.RegionWith
import Derived.Deep.RegionHeld3
import Derived.Deep.CutBlock
import Derived.RegionTactic
namespace Go.Proofs.YtdikoffppjoomaaGreat.Tr
open Go.RowKit Go.Proofs.YtdikoffppjoomaaGreat.Dg
open Go.Proofs.YtdikoffppjoomaaGreat.Mw (I64 ret_int ret_bool Bk bl_trans own_ints)
set_option linter.unusedVariables false
set_option linter.unusedSimpArgs false
set_option maxRecDepth 100000

def RT (x : St × St × Bool) (w : World) (e : Ending) (w' : World) : Prop := e = .returned (.tuple #[dv x.1, dv x.2.1, .bool x.2.2]) ∧ Below w.heap.size w w'

set_option maxHeartbeats 1000000 in
theorem prts_t (m n : Nat) (old : St) (p : List St) (A : Option Addr) (c : Nat) (w : World) (h1 : m = n) :
    Calls Tryz.prog 110 #[.int .i64 (m : Int), .int .i64 (n : Int), .bool true, dv old, .slice A p.length c] w (RT (rts m n true old p) w) := by
  have He := Lib.hid (rts_t m n old p h1)
  have n10 : ((m : Int) == (n : Int)) = true := beq_iff_eq.2 (by omega)
  clear h1
  have hF : Bk (((w.alloc (.cells (c4 old) 35)).alloc (.cells z4 35)).alloc (.cells z4 35)) w.heap.size 35 (c4 old) := by (repeat (first | ((with_reducible refine Mw.Bk.new' ?_); (first | rfl | (simp; done) | (simp; omega))) | with_reducible refine Mw.Bk.alloc ?_ _ | with_reducible refine Mw.Bk.drewN ?_ _ | with_reducible refine Mw.Bk.drew ?_ | with_reducible assumption))
  obtain ⟨⟨x0, x1, x2, x3⟩, -⟩ := bk4 hF
  go_enter Tryz.func110, Tryz.ntmps110
  go_wp2_with fail
  go_region_held3 (fun w' => w'.cell? ⟨w.heap.size, 0, none⟩ = some (.int .u32 old.1) ∧ w'.cell? ⟨w.heap.size, 1, none⟩ = some (.int .u32 old.2.1) ∧ w'.cell? ⟨w.heap.size, 2, none⟩ = some (.int .u32 old.2.2.1) ∧ w'.cell? ⟨w.heap.size, 3, none⟩ = some (.int .u32 old.2.2.2)) ((refine ⟨?_, ?_, ?_, ?_⟩ <;> (refine (Mw.Bk.cell (t := 35) (cs := c4 old) ?_ _).trans rfl; (repeat (first | ((with_reducible refine Mw.Bk.new' ?_); (first | rfl | (simp; done) | (simp; omega))) | with_reducible refine Mw.Bk.alloc ?_ _ | with_reducible refine Mw.Bk.drewN ?_ _ | with_reducible refine Mw.Bk.drew ?_ | with_reducible assumption))))) (fail)
  all_goals
    go_wp2_with fail
    refine bodyPost_ret (v := .tuple #[dv old, dv old, .bool (p.length == 0)]) (by simp [results, Tryz.results110, go_sem, ieq0]) rfl ⟨by rw [He.out], ?_⟩
    (repeat (first | with_reducible exact Below.refl _ _ | with_reducible refine bl_drewN ?_ _ | with_reducible refine Below.drew ?_ | with_reducible refine bl_alloc ?_ _ | with_reducible refine Below.alloc ?_ (by first | omega | (simp; done) | (simp; omega)) _ | with_reducible refine Below.setCell ?_ (by first | omega | (simp; done) | (simp; omega)) _ | with_reducible assumption))
set_option maxHeartbeats 1000000 in
theorem prts_f1 (m n : Nat) (old : St) (p : List St) (A : Option Addr) (c : Nat) (w : World) (h1 : m = n) (hp : p.length = 1) (hr : RdD w A p) :
    Calls Tryz.prog 110 #[.int .i64 (m : Int), .int .i64 (n : Int), .bool false, dv old, .slice A p.length c] w (RT (rts m n false old p) w) := by
  have He := Lib.hid (rts_f1 m n old p h1 hp)
  have n10 : ((m : Int) == (n : Int)) = true := beq_iff_eq.2 (by omega)
  obtain ⟨b, off, rfl, hbl, c0, c1, c2, c3⟩ := hr.at 0 (by omega)
  rw [Nat.zero_mul, Nat.add_zero] at c0 c1 c2 c3
  rw [hp]
  have hne1 : ¬ w.heap.size = b := by omega
  have hne2 : w.heap.size + 1 ≠ b := by omega
  have hne3 : w.heap.size + 2 ≠ b := by omega
  have hne4 : w.heap.size + 1 + 1 ≠ b := by omega
  have hne5 : ¬ b = w.heap.size := by omega
  clear h1 hp hr
  go_enter Tryz.func110, Tryz.ntmps110
  go_wp2_with fail
  go_region_held3 (fun w' => w'.cell? ⟨b, off, none⟩ = some (.int .u32 (gd p 0).1) ∧ w'.cell? ⟨b, off + 1, none⟩ = some (.int .u32 (gd p 0).2.1) ∧ w'.cell? ⟨b, off + 2, none⟩ = some (.int .u32 (gd p 0).2.2.1) ∧ w'.cell? ⟨b, off + 3, none⟩ = some (.int .u32 (gd p 0).2.2.2)) ((refine ⟨?_, ?_, ?_, ?_⟩ <;> (repeat (first | with_reducible assumption | with_reducible refine Mw.cell_alloc ?_ _ | with_reducible refine Mw.cell_drew ?_ | with_reducible refine Mw.cell_far ?_ (by first | assumption | omega | (simp; omega)) _)))) (fail)
  all_goals
    go_wp2_with fail
    refine bodyPost_ret (v := .tuple #[dv (gd p 0), dv (gd p 0), .bool true]) (by simp [results, Tryz.results110, go_sem]) rfl ⟨by rw [He.out], ?_⟩
    (repeat (first | with_reducible exact Below.refl _ _ | with_reducible refine bl_drewN ?_ _ | with_reducible refine Below.drew ?_ | with_reducible refine bl_alloc ?_ _ | with_reducible refine Below.alloc ?_ (by first | omega | (simp; done) | (simp; omega)) _ | with_reducible refine Below.setCell ?_ (by first | omega | (simp; done) | (simp; omega)) _ | with_reducible assumption))
set_option maxHeartbeats 1000000 in
theorem prts_f0 (m n : Nat) (old : St) (p : List St) (A : Option Addr) (c : Nat) (w : World) (h1 : m = n) (hp : p.length ≠ 1) :
    Calls Tryz.prog 110 #[.int .i64 (m : Int), .int .i64 (n : Int), .bool false, dv old, .slice A p.length c] w (RT (rts m n false old p) w) := by
  have He := Lib.hid (rts_f0 m n old p h1 hp)
  have n10 : ((m : Int) == (n : Int)) = true := beq_iff_eq.2 (by omega)
  have n11 : ((p.length : Int) != 1) = true := bne_iff_ne.2 (by omega)
  clear h1 hp
  go_enter Tryz.func110, Tryz.ntmps110
  go_wp2_with fail
  refine bodyPost_ret (v := .tuple #[dv (0, 0, 0, 0), dv (0, 0, 0, 0), .bool false]) (by simp [results, Tryz.results110, go_sem]) rfl ⟨by rw [He.out], ?_⟩
  (repeat (first | with_reducible exact Below.refl _ _ | with_reducible refine bl_drewN ?_ _ | with_reducible refine Below.drew ?_ | with_reducible refine bl_alloc ?_ _ | with_reducible refine Below.alloc ?_ (by first | omega | (simp; done) | (simp; omega)) _ | with_reducible refine Below.setCell ?_ (by first | omega | (simp; done) | (simp; omega)) _ | with_reducible assumption))
set_option maxHeartbeats 1000000 in
theorem prts_0 (m n : Nat) (bg : Bool) (old : St) (p : List St) (A : Option Addr) (c : Nat) (w : World) (h1 : m ≠ n) (h0 : p.length = 0) :
    Calls Tryz.prog 110 #[.int .i64 (m : Int), .int .i64 (n : Int), .bool bg, dv old, .slice A p.length c] w (RT (rts m n bg old p) w) := by
  have He := Lib.hid (rts_0 m n bg old p h1 h0)
  have n10 : ((m : Int) == (n : Int)) = false := beq_eq_false_iff_ne.2 (by omega)
  rw [h0]
  clear h1 h0
  go_enter Tryz.func110, Tryz.ntmps110
  go_wp2_with fail
  refine bodyPost_ret (v := .tuple #[dv (0, 0, 0, 0), dv (0, 0, 0, 0), .bool false]) (by simp [results, Tryz.results110, go_sem]) rfl ⟨by rw [He.out], ?_⟩
  (repeat (first | with_reducible exact Below.refl _ _ | with_reducible refine bl_drewN ?_ _ | with_reducible refine Below.drew ?_ | with_reducible refine bl_alloc ?_ _ | with_reducible refine Below.alloc ?_ (by first | omega | (simp; done) | (simp; omega)) _ | with_reducible refine Below.setCell ?_ (by first | omega | (simp; done) | (simp; omega)) _ | with_reducible assumption))
set_option maxHeartbeats 4000000 in
set_option maxRecDepth 100000 in
theorem prts_ind (f : Nat) : ∀ (m n : Nat) (bg : Bool) (old : St) (p : List St) (A : Option Addr) (c : Nat) (w : World), p.length ≤ f → 1 ≤ m → m ≤ n → n ≤ 1000000 → p.length ≤ 1000000 → p.length ≤ c → c ≤ maxLen → RdD w A p →
    Calls Tryz.prog 110 #[.int .i64 (m : Int), .int .i64 (n : Int), .bool bg, dv old, .slice A p.length c] w (RT (rts m n bg old p) w) := by
  induction f with
  | zero =>
    intro m n bg old p A c w hf hm hmn hn hp hpc hcm hr
    by_cases h1 : m = n
    · cases bg with
      | true => exact prts_t m n old p A c w h1
      | false => exact prts_f0 m n old p A c w h1 (by omega)
    · exact prts_0 m n bg old p A c w h1 (by omega)
  | succ f ih =>
    intro m n bg old p A c w hf hm hmn hn hp hpc hcm hr
    by_cases h1 : m = n
    · cases bg with
      | true => exact prts_t m n old p A c w h1
      | false =>
        by_cases hp1 : p.length = 1
        · exact prts_f1 m n old p A c w h1 hp1 hr
        · exact prts_f0 m n old p A c w h1 hp1
    by_cases h0 : p.length = 0
    · exact prts_0 m n bg old p A c w h1 h0
    have n1 : ((m : Int) == (n : Int)) = false := beq_eq_false_iff_ne.2 (by omega)
    have n0 : ((p.length : Int) == 0) = false := beq_eq_false_iff_ne.2 (by omega)
    obtain ⟨b, off, rfl, hbl, c0, c1, c2, c3⟩ := hr.at (p.length - 1) (by omega)
    obtain ⟨L, hL⟩ : ∃ L, L = p.length - 1 := ⟨_, rfl⟩
    have hw : IntKind.i64.wrap ((p.length : Int) - 1) = (L : Int) := by rw [IntWalk.i64_in _ (by omega)]; omega
    have hil : (ini p).length = L := by rw [ini_len, hL]
    have hri : RdD w (some ⟨b, off, none⟩) (ini p) := hr.take _
    have hlst : gd p (p.length - 1) = lst p := rfl
    rw [hlst, ← hL] at c0 c1 c2 c3
    have h4 := spl_pos (n := n) (by omega)
    have h5 := spl_lt (n := n) (by omega)
    obtain ⟨K, hK⟩ : ∃ K, K = spl n := ⟨_, rfl⟩
    have HS := Lib.hid (show ∀ W : World, Calls Tryz.prog 90 #[.int .i64 (n : Int)] W fun e w' => e = .returned (.int .i64 (K : Int)) ∧ W = w' by
      intro W
      have h6 := split_any (n : Int) (I64n _ (by omega)) W
      rw [splI_nat, ← hK] at h6
      exact h6)
    have k1 : (0 : Int) ≤ (L : Int) := by omega
    have k2 : (L : Int) < (p.length : Int) := by omega
    have k3 : (L : Int) ≤ (c : Int) := by omega
    have k4 : L < p.length := by omega
    have hne : ¬ b = w.heap.size := by omega
    have hne1 : ¬ w.heap.size = b := by omega
    have hne2 : w.heap.size + 1 ≠ b := by omega
    have hne3 : w.heap.size + 2 ≠ b := by omega
    have hne4 : w.heap.size + 1 + 1 ≠ b := by omega
    have hne5 : w.heap.size + 3 ≠ b := by omega
    have hne6 : w.heap.size + 1 + 1 + 1 ≠ b := by omega
    rw [← hK] at h4 h5
    by_cases hik : m ≤ K
    · have hle := rts_l m n bg old p h1 h0 (by rw [← hK]; exact hik)
      rw [← hK] at hle
      have He := Lib.hid hle
      have HP := Lib.hid (show ∀ W : World, Below w.heap.size w W → Calls Tryz.prog 110 #[.int .i64 (m : Int), .int .i64 (K : Int), .bool bg, dv old, .slice (some ⟨b, off, none⟩) L c] W (RT (rts m K bg old (ini p)) W) from fun W hW => by
        have h6 := ih m K bg old (ini p) (some ⟨b, off, none⟩) c W (by omega) (by omega) (by omega) (by omega) (by omega) (by omega) hcm (hri.old hW)
        rw [hil] at h6
        exact h6)
      have t1 : decide ((m : Int) ≤ (K : Int)) = true := decide_eq_true (by omega)
      generalize rts m K bg old (ini p) = X at HP He
      obtain ⟨x, y, xb⟩ := X
      generalize lst p = q at c0 c1 c2 c3 He
      unfold maxLen at hcm
      clear ih hr hri hlst hle hK hil hL
      go_enter Tryz.func110, Tryz.ntmps110
      go_upto_region 9 with fail
      go_cut [13, 14] (fun s p wx => s = .slice (some ⟨b, off, none⟩) L c ∧ ∃ g, p = .pointer (some ⟨g, 0, none⟩) ∧ g ≠ w.heap.size + 1 ∧ g ≠ w.heap.size + 2 ∧ Bk wx g 35 (c4 q) ∧ Bk wx w.heap.size 35 (c4 old) ∧ Bk wx (w.heap.size + 1) 35 z4 ∧ Bk wx (w.heap.size + 2) 35 z4 ∧ Below w.heap.size w wx)
      case first =>
        go_region_held3 (fun w' => w'.cell? ⟨b, off + L * 4, none⟩ = some (.int .u32 q.1) ∧ w'.cell? ⟨b, off + L * 4 + 1, none⟩ = some (.int .u32 q.2.1) ∧ w'.cell? ⟨b, off + L * 4 + 2, none⟩ = some (.int .u32 q.2.2.1) ∧ w'.cell? ⟨b, off + L * 4 + 3, none⟩ = some (.int .u32 q.2.2.2)) ((refine ⟨?_, ?_, ?_, ?_⟩ <;> (repeat (first | with_reducible assumption | with_reducible refine Mw.cell_alloc ?_ _ | with_reducible refine Mw.cell_drew ?_ | with_reducible refine Mw.cell_far ?_ (by first | assumption | omega | (simp; omega)) _)))) (fail)
        all_goals
          go_wp2_with fail
          go_meet
          exact ⟨rfl, _, rfl, by first | omega | (simp; done) | (simp; omega), by first | omega | (simp; done) | (simp; omega), by (repeat (first | with_reducible assumption | ((with_reducible refine Mw.Bk.new' ?_); (first | rfl | (simp; done) | (simp; omega))) | with_reducible refine Mw.Bk.alloc ?_ _ | with_reducible refine Mw.Bk.drew ?_ | with_reducible refine Mw.Bk.drewN ?_ _ | with_reducible refine Mw.Bk.set4 (a0 := .int .u32 0) (a1 := .int .u32 0) (a2 := .int .u32 0) (a3 := .int .u32 0) ?_ | ((with_reducible refine Mw.Bk.far ?_ ?_ _); rotate_left 1; focus (first | omega | (simp; done) | (simp; omega))) | with_reducible refine Mw.Bk.old ?_ (by assumption))), by (repeat (first | with_reducible assumption | ((with_reducible refine Mw.Bk.new' ?_); (first | rfl | (simp; done) | (simp; omega))) | with_reducible refine Mw.Bk.alloc ?_ _ | with_reducible refine Mw.Bk.drew ?_ | with_reducible refine Mw.Bk.drewN ?_ _ | with_reducible refine Mw.Bk.set4 (a0 := .int .u32 0) (a1 := .int .u32 0) (a2 := .int .u32 0) (a3 := .int .u32 0) ?_ | ((with_reducible refine Mw.Bk.far ?_ ?_ _); rotate_left 1; focus (first | omega | (simp; done) | (simp; omega))) | with_reducible refine Mw.Bk.old ?_ (by assumption))), by (repeat (first | with_reducible assumption | ((with_reducible refine Mw.Bk.new' ?_); (first | rfl | (simp; done) | (simp; omega))) | with_reducible refine Mw.Bk.alloc ?_ _ | with_reducible refine Mw.Bk.drew ?_ | with_reducible refine Mw.Bk.drewN ?_ _ | with_reducible refine Mw.Bk.set4 (a0 := .int .u32 0) (a1 := .int .u32 0) (a2 := .int .u32 0) (a3 := .int .u32 0) ?_ | ((with_reducible refine Mw.Bk.far ?_ ?_ _); rotate_left 1; focus (first | omega | (simp; done) | (simp; omega))) | with_reducible refine Mw.Bk.old ?_ (by assumption))), by (repeat (first | with_reducible assumption | ((with_reducible refine Mw.Bk.new' ?_); (first | rfl | (simp; done) | (simp; omega))) | with_reducible refine Mw.Bk.alloc ?_ _ | with_reducible refine Mw.Bk.drew ?_ | with_reducible refine Mw.Bk.drewN ?_ _ | with_reducible refine Mw.Bk.set4 (a0 := .int .u32 0) (a1 := .int .u32 0) (a2 := .int .u32 0) (a3 := .int .u32 0) ?_ | ((with_reducible refine Mw.Bk.far ?_ ?_ _); rotate_left 1; focus (first | omega | (simp; done) | (simp; omega))) | with_reducible refine Mw.Bk.old ?_ (by assumption))), by (repeat (first | with_reducible exact Below.refl _ _ | with_reducible refine bl_drewN ?_ _ | with_reducible refine Below.drew ?_ | with_reducible refine bl_alloc ?_ _ | with_reducible refine Below.alloc ?_ (by first | omega | (simp; done) | (simp; omega)) _ | with_reducible refine Below.setCell ?_ (by first | omega | (simp; done) | (simp; omega)) _ | with_reducible assumption))⟩
      case rest =>
        obtain ⟨rfl, g, rfl, hg1, hg2, hQ, hF, hZ, hY, hb⟩ := hcut
        clear c0 c1 c2 c3
        obtain ⟨⟨a0, a1, a2, a3⟩, -⟩ := bk4 hF
        have l0 := hQ.lt
        have l1 := hZ.lt
        have l2 := hF.lt
        have l3 := hY.lt
        go_upto_region 12 with (go_at_call 90; refine (HS.out _).mono ?_; rintro e w0 ⟨rfl, rfl⟩)
        go_cut [12] (fun o wx => o = .bool xb ∧ Bk wx g 35 (c4 q) ∧ Bk wx (w.heap.size + 1) 35 (c4 x) ∧ Bk wx (w.heap.size + 2) 35 (c4 y) ∧ Below w.heap.size w wx)
        case first =>
          go_wp2_with fail
          ((with_reducible refine (HP.out _ (by (repeat (first | with_reducible exact Below.refl _ _ | with_reducible refine bl_drewN ?_ _ | with_reducible refine Below.drew ?_ | with_reducible refine bl_alloc ?_ _ | with_reducible refine Below.alloc ?_ (by first | omega | (simp; done) | (simp; omega)) _ | with_reducible refine Below.setCell ?_ (by first | omega | (simp; done) | (simp; omega)) _ | with_reducible assumption)))).mono ?_); rintro e w1 ⟨rfl, hb1⟩)
          have hQ1 := hQ.old hb1
          have hZ1 := hZ.old hb1
          have hY1 := hY.old hb1
          have hc1 := bl_trans hb hb1
          clear hb1 hQ hZ hY hF hb a0 a1 a2 a3
          obtain ⟨⟨a0, a1, a2, a3⟩, e0, e1, e2, e3⟩ := bk4 hZ1
          obtain ⟨⟨b0, b1, b2, b3⟩, f0, f1, f2, f3⟩ := bk4 hY1
          go_wp2_with fail
          go_meet
          exact ⟨rfl, by (repeat (first | with_reducible assumption | ((with_reducible refine Mw.Bk.new' ?_); (first | rfl | (simp; done) | (simp; omega))) | with_reducible refine Mw.Bk.alloc ?_ _ | with_reducible refine Mw.Bk.drew ?_ | with_reducible refine Mw.Bk.drewN ?_ _ | with_reducible refine Mw.Bk.set4 (a0 := .int .u32 0) (a1 := .int .u32 0) (a2 := .int .u32 0) (a3 := .int .u32 0) ?_ | ((with_reducible refine Mw.Bk.far ?_ ?_ _); rotate_left 1; focus (first | omega | (simp; done) | (simp; omega))) | with_reducible refine Mw.Bk.old ?_ (by assumption))), by (repeat (first | with_reducible assumption | ((with_reducible refine Mw.Bk.new' ?_); (first | rfl | (simp; done) | (simp; omega))) | with_reducible refine Mw.Bk.alloc ?_ _ | with_reducible refine Mw.Bk.drew ?_ | with_reducible refine Mw.Bk.drewN ?_ _ | with_reducible refine Mw.Bk.set4 (a0 := .int .u32 0) (a1 := .int .u32 0) (a2 := .int .u32 0) (a3 := .int .u32 0) ?_ | ((with_reducible refine Mw.Bk.far ?_ ?_ _); rotate_left 1; focus (first | omega | (simp; done) | (simp; omega))) | with_reducible refine Mw.Bk.old ?_ (by assumption))), by (repeat (first | with_reducible assumption | ((with_reducible refine Mw.Bk.new' ?_); (first | rfl | (simp; done) | (simp; omega))) | with_reducible refine Mw.Bk.alloc ?_ _ | with_reducible refine Mw.Bk.drew ?_ | with_reducible refine Mw.Bk.drewN ?_ _ | with_reducible refine Mw.Bk.set4 (a0 := .int .u32 0) (a1 := .int .u32 0) (a2 := .int .u32 0) (a3 := .int .u32 0) ?_ | ((with_reducible refine Mw.Bk.far ?_ ?_ _); rotate_left 1; focus (first | omega | (simp; done) | (simp; omega))) | with_reducible refine Mw.Bk.old ?_ (by assumption))), by (repeat (first | with_reducible exact Below.refl _ _ | with_reducible refine bl_drewN ?_ _ | with_reducible refine Below.drew ?_ | with_reducible refine bl_alloc ?_ _ | with_reducible refine Below.alloc ?_ (by first | omega | (simp; done) | (simp; omega)) _ | with_reducible refine Below.setCell ?_ (by first | omega | (simp; done) | (simp; omega)) _ | with_reducible assumption))⟩
        case rest =>
          clear a0 a1 a2 a3 hQ hF hZ hY hb
          obtain ⟨rfl, hQ, hX, hY, hb⟩ := hcut
          obtain ⟨⟨a0, a1, a2, a3⟩, d0, d1, d2, d3⟩ := bk4 hX
          obtain ⟨⟨b0, b1, b2, b3⟩, e0, e1, e2, e3⟩ := bk4 hY
          obtain ⟨⟨q0, q1, q2, q3⟩, f0, f1, f2, f3⟩ := bk4 hQ
          have m0 := hX.lt
          have m1 := hQ.lt
          have m2 := hY.lt
          have hg3 : w.heap.size + 1 ≠ g := Ne.symm hg1
          have hg4 : w.heap.size + 2 ≠ g := Ne.symm hg2
          have hg5 : w.heap.size + 1 + 1 ≠ g := Ne.symm hg2
          go_wp2_with fail
          have hQ1 := hQ.drew
          have hX1 := hX.drew
          have hY1 := hY.drew
          have hc1 := hb.drew
          refine Am.wp_region_M (S := fun w' => w'.cell? ⟨g, 0, none⟩ = some (.int .u32 q.1) ∧ w'.cell? ⟨g, 1, none⟩ = some (.int .u32 q.2.1) ∧ w'.cell? ⟨g, 2, none⟩ = some (.int .u32 q.2.2.1) ∧ w'.cell? ⟨g, 3, none⟩ = some (.int .u32 q.2.2.2) ∧ w'.cell? ⟨w.heap.size + 1, 0, none⟩ = some (.int .u32 x.1) ∧ w'.cell? ⟨w.heap.size + 1, 1, none⟩ = some (.int .u32 x.2.1) ∧ w'.cell? ⟨w.heap.size + 1, 2, none⟩ = some (.int .u32 x.2.2.1) ∧ w'.cell? ⟨w.heap.size + 1, 3, none⟩ = some (.int .u32 x.2.2.2) ∧ w'.cell? ⟨w.heap.size + 1 + 1, 0, none⟩ = some (.int .u32 y.1) ∧ w'.cell? ⟨w.heap.size + 1 + 1, 1, none⟩ = some (.int .u32 y.2.1) ∧ w'.cell? ⟨w.heap.size + 1 + 1, 2, none⟩ = some (.int .u32 y.2.2.1) ∧ w'.cell? ⟨w.heap.size + 1 + 1, 3, none⟩ = some (.int .u32 y.2.2.2)) [4, 5, 6, 7] (by kernel_rfl) ⟨q0, q1, q2, q3, a0, a1, a2, a3, b0, b1, b2, b3⟩ (fun hS => ?_)
          (refine Am.wpAnyM_move (i := 4) (v := ?_) rfl (by rfl) (by kernel_rfl) (by kernel_rfl) (by kernel_rfl) (fun _ _ _ h => h) (Or.inl ⟨by rfl, ?_⟩) ?_; rotate_left 1; focus (intro w' hSw; go_simp; try (with_reducible rfl)); try simp only [Act.put, List.setIfInBounds_toArray, List.set_cons_zero, List.set_cons_succ])
          (refine Am.wpAnyM_take (i := 0) (v := ?_) rfl (by kernel_rfl) (by kernel_rfl) (by kernel_rfl) (by kernel_rfl) (by kernel_rfl) (fun _ _ _ h => h) (Or.inl ⟨by rfl, ?_⟩) hS ?_; rotate_left 1; focus (intro w' hSw; (try dsimp only at hSw); go_simp; try (with_reducible rfl)); try simp only [Act.put, List.setIfInBounds_toArray, List.set_cons_zero, List.set_cons_succ])
          (refine Am.wpAnyM_take (i := 1) (v := ?_) rfl (by kernel_rfl) (by kernel_rfl) (by kernel_rfl) (by kernel_rfl) (by kernel_rfl) (fun _ _ _ h => h) (Or.inl ⟨by rfl, ?_⟩) hS ?_; rotate_left 1; focus (intro w' hSw; (try dsimp only at hSw); go_simp; try (with_reducible rfl)); try simp only [Act.put, List.setIfInBounds_toArray, List.set_cons_zero, List.set_cons_succ])
          (refine Am.wpAnyM_take (i := 2) (v := ?_) rfl (by kernel_rfl) (by kernel_rfl) (by kernel_rfl) (by kernel_rfl) (by kernel_rfl) (fun _ _ _ h => h) (Or.inl ⟨by rfl, ?_⟩) hS ?_; rotate_left 1; focus (intro w' hSw; (try dsimp only at hSw); go_simp; try (with_reducible rfl)); try simp only [Act.put, List.setIfInBounds_toArray, List.set_cons_zero, List.set_cons_succ])
          refine Am.wpAnyM_one (i := 3) (by kernel_rfl) rfl (fun K hK => ?_)
          go_simp
          refine (join_any y q _).mono ?_
          rintro e w2 ⟨rfl, hb2⟩
          have hQ2 := hQ1.old hb2
          have hX2 := hX1.old hb2
          have hY2 := hY1.old hb2
          have hc2 := bl_trans hc1 hb2
          clear hb2 a0 a1 a2 a3 b0 b1 b2 b3 q0 q1 q2 q3 d0 d1 d2 d3 e0 e1 e2 e3 f0 f1 f2 f3
          obtain ⟨⟨a0, a1, a2, a3⟩, d0, d1, d2, d3⟩ := bk4 hX2
          obtain ⟨⟨b0, b1, b2, b3⟩, e0, e1, e2, e3⟩ := bk4 hY2
          obtain ⟨⟨q0, q1, q2, q3⟩, f0, f1, f2, f3⟩ := bk4 hQ2
          go_simp
          refine hK.out _ _ ⟨q0, q1, q2, q3, a0, a1, a2, a3, b0, b1, b2, b3⟩ (fun hS => ?_)
          clear hK K
          try simp only [Act.put, List.setIfInBounds_toArray, List.set_cons_zero, List.set_cons_succ]
          (refine Am.wpAnyM_tail (i := 5) (by kernel_rfl) rfl (by rfl) (fun K hK => ?_); go_simp; refine hK.out _ _ ?_; clear hK K; try simp only [Act.put, List.setIfInBounds_toArray, List.set_cons_zero, List.set_cons_succ])
          (refine Am.wpAnyM_tail (i := 6) (by kernel_rfl) rfl (by rfl) (fun K hK => ?_); go_simp; refine hK.out _ _ ?_; clear hK K; try simp only [Act.put, List.setIfInBounds_toArray, List.set_cons_zero, List.set_cons_succ])
          (refine Am.wpAnyM_tail (i := 7) (by kernel_rfl) rfl (by rfl) (fun K hK => ?_); go_simp; refine hK.out _ _ ?_; clear hK K; try simp only [Act.put, List.setIfInBounds_toArray, List.set_cons_zero, List.set_cons_succ])
          refine Am.wpAnyM_done (by kernel_rfl) ?_ _
          go_wp2_with fail
          refine bodyPost_ret (v := .tuple #[dv x, dv (jn y q), .bool xb]) (by simp [results, Tryz.results110, go_sem, a0, a1, a2, a3, b0, b1, b2, b3]) rfl ⟨by rw [He.out], ?_⟩
          (repeat (first | with_reducible exact Below.refl _ _ | with_reducible refine bl_drewN ?_ _ | with_reducible refine Below.drew ?_ | with_reducible refine bl_alloc ?_ _ | with_reducible refine Below.alloc ?_ (by first | omega | (simp; done) | (simp; omega)) _ | with_reducible refine Below.setCell ?_ (by first | omega | (simp; done) | (simp; omega)) _ | with_reducible assumption))
    · have hle := rts_r m n bg old p h1 h0 (by rw [← hK]; exact hik)
      rw [← hK] at hle
      have He := Lib.hid hle
      have HP := Lib.hid (show ∀ W : World, Below w.heap.size w W → Calls Tryz.prog 110 #[.int .i64 ((m : Int) - (K : Int)), .int .i64 ((n : Int) - (K : Int)), .bool false, dv old, .slice (some ⟨b, off, none⟩) L c] W (RT (rts (m - K) (n - K) false old (ini p)) W) from fun W hW => by
        have h6 := ih (m - K) (n - K) false old (ini p) (some ⟨b, off, none⟩) c W (by omega) (by omega) (by omega) (by omega) (by omega) (by omega) hcm (hri.old hW)
        rw [hil] at h6
        rw [show (((m - K : Nat) : Int)) = ((m : Int) - (K : Int)) by omega, show (((n - K : Nat) : Int)) = ((n : Int) - (K : Int)) by omega] at h6
        exact h6)
      have t1 : decide ((m : Int) ≤ (K : Int)) = false := decide_eq_false (by omega)
      generalize rts (m - K) (n - K) false old (ini p) = X at HP He
      obtain ⟨x, y, xb⟩ := X
      generalize lst p = q at c0 c1 c2 c3 He
      unfold maxLen at hcm
      clear ih hr hri hlst hle hK hil hL
      go_enter Tryz.func110, Tryz.ntmps110
      go_upto_region 9 with fail
      go_cut [13, 14] (fun s p wx => s = .slice (some ⟨b, off, none⟩) L c ∧ ∃ g, p = .pointer (some ⟨g, 0, none⟩) ∧ g ≠ w.heap.size + 1 ∧ g ≠ w.heap.size + 2 ∧ Bk wx g 35 (c4 q) ∧ Bk wx w.heap.size 35 (c4 old) ∧ Bk wx (w.heap.size + 1) 35 z4 ∧ Bk wx (w.heap.size + 2) 35 z4 ∧ Below w.heap.size w wx)
      case first =>
        go_region_held3 (fun w' => w'.cell? ⟨b, off + L * 4, none⟩ = some (.int .u32 q.1) ∧ w'.cell? ⟨b, off + L * 4 + 1, none⟩ = some (.int .u32 q.2.1) ∧ w'.cell? ⟨b, off + L * 4 + 2, none⟩ = some (.int .u32 q.2.2.1) ∧ w'.cell? ⟨b, off + L * 4 + 3, none⟩ = some (.int .u32 q.2.2.2)) ((refine ⟨?_, ?_, ?_, ?_⟩ <;> (repeat (first | with_reducible assumption | with_reducible refine Mw.cell_alloc ?_ _ | with_reducible refine Mw.cell_drew ?_ | with_reducible refine Mw.cell_far ?_ (by first | assumption | omega | (simp; omega)) _)))) (fail)
        all_goals
          go_wp2_with fail
          go_meet
          exact ⟨rfl, _, rfl, by first | omega | (simp; done) | (simp; omega), by first | omega | (simp; done) | (simp; omega), by (repeat (first | with_reducible assumption | ((with_reducible refine Mw.Bk.new' ?_); (first | rfl | (simp; done) | (simp; omega))) | with_reducible refine Mw.Bk.alloc ?_ _ | with_reducible refine Mw.Bk.drew ?_ | with_reducible refine Mw.Bk.drewN ?_ _ | with_reducible refine Mw.Bk.set4 (a0 := .int .u32 0) (a1 := .int .u32 0) (a2 := .int .u32 0) (a3 := .int .u32 0) ?_ | ((with_reducible refine Mw.Bk.far ?_ ?_ _); rotate_left 1; focus (first | omega | (simp; done) | (simp; omega))) | with_reducible refine Mw.Bk.old ?_ (by assumption))), by (repeat (first | with_reducible assumption | ((with_reducible refine Mw.Bk.new' ?_); (first | rfl | (simp; done) | (simp; omega))) | with_reducible refine Mw.Bk.alloc ?_ _ | with_reducible refine Mw.Bk.drew ?_ | with_reducible refine Mw.Bk.drewN ?_ _ | with_reducible refine Mw.Bk.set4 (a0 := .int .u32 0) (a1 := .int .u32 0) (a2 := .int .u32 0) (a3 := .int .u32 0) ?_ | ((with_reducible refine Mw.Bk.far ?_ ?_ _); rotate_left 1; focus (first | omega | (simp; done) | (simp; omega))) | with_reducible refine Mw.Bk.old ?_ (by assumption))), by (repeat (first | with_reducible assumption | ((with_reducible refine Mw.Bk.new' ?_); (first | rfl | (simp; done) | (simp; omega))) | with_reducible refine Mw.Bk.alloc ?_ _ | with_reducible refine Mw.Bk.drew ?_ | with_reducible refine Mw.Bk.drewN ?_ _ | with_reducible refine Mw.Bk.set4 (a0 := .int .u32 0) (a1 := .int .u32 0) (a2 := .int .u32 0) (a3 := .int .u32 0) ?_ | ((with_reducible refine Mw.Bk.far ?_ ?_ _); rotate_left 1; focus (first | omega | (simp; done) | (simp; omega))) | with_reducible refine Mw.Bk.old ?_ (by assumption))), by (repeat (first | with_reducible assumption | ((with_reducible refine Mw.Bk.new' ?_); (first | rfl | (simp; done) | (simp; omega))) | with_reducible refine Mw.Bk.alloc ?_ _ | with_reducible refine Mw.Bk.drew ?_ | with_reducible refine Mw.Bk.drewN ?_ _ | with_reducible refine Mw.Bk.set4 (a0 := .int .u32 0) (a1 := .int .u32 0) (a2 := .int .u32 0) (a3 := .int .u32 0) ?_ | ((with_reducible refine Mw.Bk.far ?_ ?_ _); rotate_left 1; focus (first | omega | (simp; done) | (simp; omega))) | with_reducible refine Mw.Bk.old ?_ (by assumption))), by (repeat (first | with_reducible exact Below.refl _ _ | with_reducible refine bl_drewN ?_ _ | with_reducible refine Below.drew ?_ | with_reducible refine bl_alloc ?_ _ | with_reducible refine Below.alloc ?_ (by first | omega | (simp; done) | (simp; omega)) _ | with_reducible refine Below.setCell ?_ (by first | omega | (simp; done) | (simp; omega)) _ | with_reducible assumption))⟩
      case rest =>
        obtain ⟨rfl, g, rfl, hg1, hg2, hQ, hF, hZ, hY, hb⟩ := hcut
        clear c0 c1 c2 c3
        obtain ⟨⟨a0, a1, a2, a3⟩, -⟩ := bk4 hF
        have l0 := hQ.lt
        have l1 := hZ.lt
        have l2 := hF.lt
        have l3 := hY.lt
        go_upto_region 14 with (go_at_call 90; refine (HS.out _).mono ?_; rintro e w0 ⟨rfl, rfl⟩)
        go_cut [12] (fun o wx => o = .bool xb ∧ Bk wx g 35 (c4 q) ∧ Bk wx (w.heap.size + 1) 35 (c4 x) ∧ Bk wx (w.heap.size + 2) 35 (c4 y) ∧ Below w.heap.size w wx)
        case first =>
          go_wp2_with fail
          ((with_reducible refine (HP.out _ (by (repeat (first | with_reducible exact Below.refl _ _ | with_reducible refine bl_drewN ?_ _ | with_reducible refine Below.drew ?_ | with_reducible refine bl_alloc ?_ _ | with_reducible refine Below.alloc ?_ (by first | omega | (simp; done) | (simp; omega)) _ | with_reducible refine Below.setCell ?_ (by first | omega | (simp; done) | (simp; omega)) _ | with_reducible assumption)))).mono ?_); rintro e w1 ⟨rfl, hb1⟩)
          have hQ1 := hQ.old hb1
          have hZ1 := hZ.old hb1
          have hY1 := hY.old hb1
          have hc1 := bl_trans hb hb1
          clear hb1 hQ hZ hY hF hb a0 a1 a2 a3
          obtain ⟨⟨a0, a1, a2, a3⟩, e0, e1, e2, e3⟩ := bk4 hZ1
          obtain ⟨⟨b0, b1, b2, b3⟩, f0, f1, f2, f3⟩ := bk4 hY1
          go_wp2_with fail
          go_meet
          exact ⟨rfl, by (repeat (first | with_reducible assumption | ((with_reducible refine Mw.Bk.new' ?_); (first | rfl | (simp; done) | (simp; omega))) | with_reducible refine Mw.Bk.alloc ?_ _ | with_reducible refine Mw.Bk.drew ?_ | with_reducible refine Mw.Bk.drewN ?_ _ | with_reducible refine Mw.Bk.set4 (a0 := .int .u32 0) (a1 := .int .u32 0) (a2 := .int .u32 0) (a3 := .int .u32 0) ?_ | ((with_reducible refine Mw.Bk.far ?_ ?_ _); rotate_left 1; focus (first | omega | (simp; done) | (simp; omega))) | with_reducible refine Mw.Bk.old ?_ (by assumption))), by (repeat (first | with_reducible assumption | ((with_reducible refine Mw.Bk.new' ?_); (first | rfl | (simp; done) | (simp; omega))) | with_reducible refine Mw.Bk.alloc ?_ _ | with_reducible refine Mw.Bk.drew ?_ | with_reducible refine Mw.Bk.drewN ?_ _ | with_reducible refine Mw.Bk.set4 (a0 := .int .u32 0) (a1 := .int .u32 0) (a2 := .int .u32 0) (a3 := .int .u32 0) ?_ | ((with_reducible refine Mw.Bk.far ?_ ?_ _); rotate_left 1; focus (first | omega | (simp; done) | (simp; omega))) | with_reducible refine Mw.Bk.old ?_ (by assumption))), by (repeat (first | with_reducible assumption | ((with_reducible refine Mw.Bk.new' ?_); (first | rfl | (simp; done) | (simp; omega))) | with_reducible refine Mw.Bk.alloc ?_ _ | with_reducible refine Mw.Bk.drew ?_ | with_reducible refine Mw.Bk.drewN ?_ _ | with_reducible refine Mw.Bk.set4 (a0 := .int .u32 0) (a1 := .int .u32 0) (a2 := .int .u32 0) (a3 := .int .u32 0) ?_ | ((with_reducible refine Mw.Bk.far ?_ ?_ _); rotate_left 1; focus (first | omega | (simp; done) | (simp; omega))) | with_reducible refine Mw.Bk.old ?_ (by assumption))), by (repeat (first | with_reducible exact Below.refl _ _ | with_reducible refine bl_drewN ?_ _ | with_reducible refine Below.drew ?_ | with_reducible refine bl_alloc ?_ _ | with_reducible refine Below.alloc ?_ (by first | omega | (simp; done) | (simp; omega)) _ | with_reducible refine Below.setCell ?_ (by first | omega | (simp; done) | (simp; omega)) _ | with_reducible assumption))⟩
        case rest =>
          clear a0 a1 a2 a3 hQ hF hZ hY hb
          obtain ⟨rfl, hQ, hX, hY, hb⟩ := hcut
          obtain ⟨⟨a0, a1, a2, a3⟩, d0, d1, d2, d3⟩ := bk4 hX
          obtain ⟨⟨b0, b1, b2, b3⟩, e0, e1, e2, e3⟩ := bk4 hY
          obtain ⟨⟨q0, q1, q2, q3⟩, f0, f1, f2, f3⟩ := bk4 hQ
          have m0 := hX.lt
          have m1 := hQ.lt
          have m2 := hY.lt
          have hg3 : w.heap.size + 1 ≠ g := Ne.symm hg1
          have hg4 : w.heap.size + 2 ≠ g := Ne.symm hg2
          have hg5 : w.heap.size + 1 + 1 ≠ g := Ne.symm hg2
          go_wp2_with fail
          have hQ1 := hQ.drew
          have hX1 := hX.drew
          have hY1 := hY.drew
          have hc1 := hb.drew
          refine Am.wp_region_M (S := fun w' => w'.cell? ⟨g, 0, none⟩ = some (.int .u32 q.1) ∧ w'.cell? ⟨g, 1, none⟩ = some (.int .u32 q.2.1) ∧ w'.cell? ⟨g, 2, none⟩ = some (.int .u32 q.2.2.1) ∧ w'.cell? ⟨g, 3, none⟩ = some (.int .u32 q.2.2.2) ∧ w'.cell? ⟨w.heap.size + 1, 0, none⟩ = some (.int .u32 x.1) ∧ w'.cell? ⟨w.heap.size + 1, 1, none⟩ = some (.int .u32 x.2.1) ∧ w'.cell? ⟨w.heap.size + 1, 2, none⟩ = some (.int .u32 x.2.2.1) ∧ w'.cell? ⟨w.heap.size + 1, 3, none⟩ = some (.int .u32 x.2.2.2) ∧ w'.cell? ⟨w.heap.size + 1 + 1, 0, none⟩ = some (.int .u32 y.1) ∧ w'.cell? ⟨w.heap.size + 1 + 1, 1, none⟩ = some (.int .u32 y.2.1) ∧ w'.cell? ⟨w.heap.size + 1 + 1, 2, none⟩ = some (.int .u32 y.2.2.1) ∧ w'.cell? ⟨w.heap.size + 1 + 1, 3, none⟩ = some (.int .u32 y.2.2.2)) [6, 7, 8, 9] (by kernel_rfl) ⟨q0, q1, q2, q3, a0, a1, a2, a3, b0, b1, b2, b3⟩ (fun hS => ?_)
          (refine Am.wpAnyM_move (i := 6) (v := ?_) rfl (by rfl) (by kernel_rfl) (by kernel_rfl) (by kernel_rfl) (fun _ _ _ h => h) (Or.inl ⟨by rfl, ?_⟩) ?_; rotate_left 1; focus (intro w' hSw; go_simp; try (with_reducible rfl)); try simp only [Act.put, List.setIfInBounds_toArray, List.set_cons_zero, List.set_cons_succ])
          (refine Am.wpAnyM_take (i := 0) (v := ?_) rfl (by kernel_rfl) (by kernel_rfl) (by kernel_rfl) (by kernel_rfl) (by kernel_rfl) (fun _ _ _ h => h) (Or.inl ⟨by rfl, ?_⟩) hS ?_; rotate_left 1; focus (intro w' hSw; (try dsimp only at hSw); go_simp; try (with_reducible rfl)); try simp only [Act.put, List.setIfInBounds_toArray, List.set_cons_zero, List.set_cons_succ])
          (refine Am.wpAnyM_take (i := 1) (v := ?_) rfl (by kernel_rfl) (by kernel_rfl) (by kernel_rfl) (by kernel_rfl) (by kernel_rfl) (fun _ _ _ h => h) (Or.inl ⟨by rfl, ?_⟩) hS ?_; rotate_left 1; focus (intro w' hSw; (try dsimp only at hSw); go_simp; try (with_reducible rfl)); try simp only [Act.put, List.setIfInBounds_toArray, List.set_cons_zero, List.set_cons_succ])
          (refine Am.wpAnyM_take (i := 3) (v := ?_) rfl (by kernel_rfl) (by kernel_rfl) (by kernel_rfl) (by kernel_rfl) (by kernel_rfl) (fun _ _ _ h => h) (Or.inl ⟨by rfl, ?_⟩) hS ?_; rotate_left 1; focus (intro w' hSw; (try dsimp only at hSw); go_simp; try (with_reducible rfl)); try simp only [Act.put, List.setIfInBounds_toArray, List.set_cons_zero, List.set_cons_succ])
          (refine Am.wpAnyM_take (i := 4) (v := ?_) rfl (by kernel_rfl) (by kernel_rfl) (by kernel_rfl) (by kernel_rfl) (by kernel_rfl) (fun _ _ _ h => h) (Or.inl ⟨by rfl, ?_⟩) hS ?_; rotate_left 1; focus (intro w' hSw; (try dsimp only at hSw); go_simp; try (with_reducible rfl)); try simp only [Act.put, List.setIfInBounds_toArray, List.set_cons_zero, List.set_cons_succ])
          refine Am.wpAnyM_one (i := 2) (by kernel_rfl) rfl (fun K hK => ?_)
          go_simp
          refine (join_any q x _).mono ?_
          rintro e w2 ⟨rfl, hb2⟩
          have hQ2 := hQ1.old hb2
          have hX2 := hX1.old hb2
          have hY2 := hY1.old hb2
          have hc2 := bl_trans hc1 hb2
          clear hb2 a0 a1 a2 a3 b0 b1 b2 b3 q0 q1 q2 q3 d0 d1 d2 d3 e0 e1 e2 e3 f0 f1 f2 f3
          obtain ⟨⟨a0, a1, a2, a3⟩, d0, d1, d2, d3⟩ := bk4 hX2
          obtain ⟨⟨b0, b1, b2, b3⟩, e0, e1, e2, e3⟩ := bk4 hY2
          obtain ⟨⟨q0, q1, q2, q3⟩, f0, f1, f2, f3⟩ := bk4 hQ2
          go_simp
          refine hK.out _ _ ⟨q0, q1, q2, q3, a0, a1, a2, a3, b0, b1, b2, b3⟩ (fun hS => ?_)
          clear hK K
          try simp only [Act.put, List.setIfInBounds_toArray, List.set_cons_zero, List.set_cons_succ]
          refine Am.wpAnyM_one (i := 5) (by kernel_rfl) rfl (fun K hK => ?_)
          go_simp
          refine (join_any q y _).mono ?_
          rintro e w3 ⟨rfl, hb3⟩
          have hQ3 := hQ2.old hb3
          have hX3 := hX2.old hb3
          have hY3 := hY2.old hb3
          have hc3 := bl_trans hc2 hb3
          clear hb3 a0 a1 a2 a3 b0 b1 b2 b3 q0 q1 q2 q3 d0 d1 d2 d3 e0 e1 e2 e3 f0 f1 f2 f3
          obtain ⟨⟨a0, a1, a2, a3⟩, d0, d1, d2, d3⟩ := bk4 hX3
          obtain ⟨⟨b0, b1, b2, b3⟩, e0, e1, e2, e3⟩ := bk4 hY3
          obtain ⟨⟨q0, q1, q2, q3⟩, f0, f1, f2, f3⟩ := bk4 hQ3
          go_simp
          refine hK.out _ _ ⟨q0, q1, q2, q3, a0, a1, a2, a3, b0, b1, b2, b3⟩ (fun hS => ?_)
          clear hK K
          try simp only [Act.put, List.setIfInBounds_toArray, List.set_cons_zero, List.set_cons_succ]
          (refine Am.wpAnyM_tail (i := 7) (by kernel_rfl) rfl (by rfl) (fun K hK => ?_); go_simp; refine hK.out _ _ ?_; clear hK K; try simp only [Act.put, List.setIfInBounds_toArray, List.set_cons_zero, List.set_cons_succ])
          (refine Am.wpAnyM_tail (i := 8) (by kernel_rfl) rfl (by rfl) (fun K hK => ?_); go_simp; refine hK.out _ _ ?_; clear hK K; try simp only [Act.put, List.setIfInBounds_toArray, List.set_cons_zero, List.set_cons_succ])
          (refine Am.wpAnyM_tail (i := 9) (by kernel_rfl) rfl (by rfl) (fun K hK => ?_); go_simp; refine hK.out _ _ ?_; clear hK K; try simp only [Act.put, List.setIfInBounds_toArray, List.set_cons_zero, List.set_cons_succ])
          refine Am.wpAnyM_done (by kernel_rfl) ?_ _
          go_wp2_with fail
          refine bodyPost_ret (v := .tuple #[dv (jn q x), dv (jn q y), .bool xb]) (by simp [results, Tryz.results110, go_sem, a0, a1, a2, a3, b0, b1, b2, b3]) rfl ⟨by rw [He.out], ?_⟩
          (repeat (first | with_reducible exact Below.refl _ _ | with_reducible refine bl_drewN ?_ _ | with_reducible refine Below.drew ?_ | with_reducible refine bl_alloc ?_ _ | with_reducible refine Below.alloc ?_ (by first | omega | (simp; done) | (simp; omega)) _ | with_reducible refine Below.setCell ?_ (by first | omega | (simp; done) | (simp; omega)) _ | with_reducible assumption))
end Go.Proofs.YtdikoffppjoomaaGreat.Tr
