/- Walks: Good of the reference. -/
import Derived.Test.YtpgkiiaoddhdcaaME
import Derived.WalkKit
import Derived.WalkSpells
import Derived.WalkLawsBesides
import Derived.Deep.QuietTactic
import Derived.BigQuiet
import Derived.Deep.Draws
import Derived.Deep.AppendLies
import Derived.Laws.OwnMore
import Derived.Laws.BytesArg
import Derived.Lib.Hide
import Derived.Deep.LoopGhost
import Derived.RegionTactic
namespace Go.Proofs.Ytpgkiiaoddhdcaa.Mo
open Go.RowKit Go.Proofs.Ytpgkiiaoddhdcaa.Mw Go.Proofs.Ytpgkiiaoddhdcaa.Dc
set_option linter.unusedVariables false

theorem ds_sub (x y : Int) : ds (x - y) 0 = ds x y := by unfold ds; split <;> split <;> omega

set_option maxHeartbeats 2000000 in
theorem rgood_any (r : Rl) (a b : List Int) (A B : Option Addr) (c d : Nat) (w : World) (hla : a.length ≤ 1000000) (hlb : b.length ≤ 1000000) (hra : RdI w .i64 A a) (hrb : RdI w .i64 B b) :
    Calls Try.prog 17 #[rv r, .slice A a.length c, .slice B b.length d] w fun e w' => e = .returned (.bool (gd r a b)) ∧ Below w.heap.size w w' := by
  cases hc : chk r
  · have He : Hid (gd r a b = false) := gd_no (fun h => by rw [hc] at h; exact absurd h.1 (by simp))
    have Hc := Lib.hid hc
    clear hc
    go_enter Try.func17, Try.ntmps17
    go_wp2_with fail
    refine (rcheck_no r Hc.out _).mono ?_
    rintro e w1 ⟨rfl, hb1⟩
    go_wp2_with fail
    go_ret
    exact ⟨ret_bool He.out.symm, bl_trans (by (repeat (first | with_reducible exact Below.refl _ _ | with_reducible refine bl_drewN ?_ _ | with_reducible refine Below.drew ?_ | with_reducible refine bl_alloc ?_ _ | with_reducible refine Below.alloc ?_ (by first | omega | (simp; done) | (simp; omega)) _ | with_reducible refine Below.setCell ?_ (by first | omega | (simp; done) | (simp; omega)) _ | with_reducible assumption))) hb1⟩
  have Hc := Lib.hid hc
  clear hc
  by_cases hl : a.length = b.length
  · have hn : ((a.length : Int) != b.length) = false := by simp [hl]
    have hl1 : a.length ≤ b.length := by omega
    have hl2 : b.length ≤ a.length := by omega
    have Hl := Lib.hid hl
    clear hl
    by_cases h24 : 24 < a.length
    · have hd : decide (24 < (a.length : Int)) = true := decide_eq_true (by omega)
      have He : Hid (gd r a b = false) := gd_no (fun h => by rw [tg_len h24] at h; exact absurd h.2.2.1 (by simp))
      go_enter Try.func17, Try.ntmps17
      go_wp2_with fail
      refine (rcheck_yes r Hc.out _).mono ?_
      rintro e w1 ⟨rfl, hb1⟩
      go_wp2_with fail
      go_ret
      exact ⟨ret_bool He.out.symm, bl_trans (by (repeat (first | with_reducible exact Below.refl _ _ | with_reducible refine bl_drewN ?_ _ | with_reducible refine Below.drew ?_ | with_reducible refine bl_alloc ?_ _ | with_reducible refine Below.alloc ?_ (by first | omega | (simp; done) | (simp; omega)) _ | with_reducible refine Below.setCell ?_ (by first | omega | (simp; done) | (simp; omega)) _ | with_reducible assumption))) hb1⟩
    · have hd : decide (24 < (a.length : Int)) = false := decide_eq_false (by omega)
      have hcb := chk_bd Hc.out
      go_enter Try.func17, Try.ntmps17
      go_wp2_with fail
      refine (rcheck_yes r Hc.out _).mono ?_
      rintro e w1 ⟨rfl, hb1⟩
      have hB1 : Bk w1 w.heap.size 24 (rc r) := Bk.old (by (repeat (first | ((with_reducible refine Mw.Bk.new' ?_); (first | rfl | (simp; done) | (simp; omega))) | with_reducible refine Mw.Bk.alloc ?_ _ | with_reducible refine Mw.Bk.drewN ?_ _ | with_reducible refine Mw.Bk.drew ?_ | with_reducible assumption))) hb1
      have hc1 : Below w.heap.size w w1 := bl_trans (by (repeat (first | with_reducible exact Below.refl _ _ | with_reducible refine bl_drewN ?_ _ | with_reducible refine Below.drew ?_ | with_reducible refine bl_alloc ?_ _ | with_reducible refine Below.alloc ?_ (by first | omega | (simp; done) | (simp; omega)) _ | with_reducible refine Below.setCell ?_ (by first | omega | (simp; done) | (simp; omega)) _ | with_reducible assumption))) hb1
      clear hb1
      go_wp2_with fail
      go_loopw [7, 8] (fun x i wr => ∃ k : Nat, k ≤ a.length ∧ i = .int .i64 k ∧ x = .int .i64 (sm a k - sm b k) ∧ (∀ j, j < k → gi a j ≤ 200 ∧ gi b j ≤ 200 ∧ ds (mx (gi a j)) (mx (gi b j)) ≤ r.p) ∧ Bk wr w.heap.size 24 (rc r) ∧ Below w.heap.size w wr) (fun _ i _ => a.length - (intOf i).toNat)
      case atStart => exact ⟨0, by omega, rfl, rfl, fun j hj => by omega, hB1, hc1⟩
      case round =>
        clear hB1 hc1
        obtain ⟨k, hk, rfl, rfl, hok, hB, hb⟩ := hrel
        have Hok := Lib.hid hok
        clear hok
        obtain ⟨⟨k0, k1, k2, k3⟩, -⟩ := bk4 hB
        have hz := hB.lt
        obtain ⟨s0, s1⟩ := sm_bd a k (fun j hj => (Hok.out j hj).1)
        obtain ⟨s2, s3⟩ := sm_bd b k (fun j hj => (Hok.out j hj).2.1)
        by_cases hlt : k < a.length
        · obtain ⟨b1, off, rfl, hbl, hcl⟩ := (hra.old hb) k hlt
          obtain ⟨b2, off', rfl, hbl', hcl'⟩ := (hrb.old hb) k (by omega)
          by_cases g1 : gi a k ≤ 200
          · by_cases g2 : gi b k ≤ 200
            · have gd1 : decide (200 < gi a k) = false := decide_eq_false (by omega)
              have gd2 : decide (200 < gi b k) = false := decide_eq_false (by omega)
              obtain ⟨x, y, Ex, Ey, x0, x1, y0, y1, hxy⟩ : ∃ x y : Int, Hid (mx (gi a k) = x) ∧ Hid (mx (gi b k) = y) ∧ 0 ≤ x ∧ x ≤ 200 ∧ 0 ≤ y ∧ y ≤ 200 ∧ ((0 ≤ gi a k ∧ x = gi a k ∨ gi a k < 0 ∧ x = 0) ∧ (0 ≤ gi b k ∧ y = gi b k ∨ gi b k < 0 ∧ y = 0)) := by
                refine ⟨mx (gi a k), mx (gi b k), rfl, rfl, (mx_bd _ g1).1, (mx_bd _ g1).2, (mx_bd _ g2).1, (mx_bd _ g2).2, ?_, ?_⟩ <;> (unfold mx; split <;> omega)
              by_cases hp : ds x y ≤ r.p
              · have hp' : decide (r.p < ds x y) = false := decide_eq_false (by omega)
                have hp2 : decide (r.p < ds (x - y) 0) = false := by rw [ds_sub]; exact hp'
                have Hp := Lib.hid hp
                clear hp' hp
                rcases hxy with ⟨⟨pa, rfl⟩ | ⟨pa, rfl⟩, ⟨pb, rfl⟩ | ⟨pb, rfl⟩⟩
                all_goals
                  (try rw [Int.sub_zero] at hp2)
                  (try rw [Int.zero_sub] at hp2)
                  go_wp2_with fail
                  go_region
                  go_wp2_with fail
                  have hBd : Bk wr.drew w.heap.size 24 (rc r) := hB
                  have hbd : Below w.heap.size w wr.drew := hb.drew
                  generalize wr.drew = wd at hBd hbd ⊢
                  obtain ⟨⟨j0, j1, j2, j3⟩, -⟩ := bk4 hBd
                  have hzd := hBd.lt
                  refine Mm.region_ext (by kernel_rfl) (by kernel_rfl) ?_; (repeat (first | go_big_quiet_step ((go_at_call 29; exact Mm.calls_same (size_any _ (by omega) (by omega) _))) | quiet_step ((go_at_call 29; exact Mm.calls_same (size_any _ (by omega) (by omega) _))))); refine wpQuiet_nil ?_
                  intro w5 hb5
                  have hB5 := Bk.old (by (repeat (first | with_reducible assumption | ((with_reducible refine Mw.Bk.new' ?_); (first | rfl | (simp; done) | (simp; omega))) | with_reducible refine Mw.Bk.alloc ?_ _ | with_reducible refine Mw.Bk.drew ?_ | with_reducible refine Mw.Bk.drewN ?_ _ | with_reducible refine Mw.Bk.set4 (a0 := .int .u32 0) (a1 := .int .u32 0) (a2 := .int .u32 0) (a3 := .int .u32 0) ?_ | ((with_reducible refine Mw.Bk.far ?_ ?_ _); rotate_left 1; focus (first | omega | (simp; done) | (simp; omega))) | with_reducible refine Mw.Bk.old ?_ (by assumption)))) hb5
                  have hc5 : Below w.heap.size w w5 := bl_trans (by (repeat (first | with_reducible exact Below.refl _ _ | with_reducible assumption | with_reducible refine bl_drewN ?_ _ | with_reducible refine Below.drew ?_ | with_reducible refine bl_alloc ?_ _ | ((with_reducible refine Below.setCell ?_ ?_ _); rotate_left 1; focus (first | omega | (simp; done) | (simp; omega))) | with_reducible refine bl_trans ?_ (by with_reducible assumption)))) hb5
                  clear hb5
                  go_wp2_with fail
                  go_roundw
                  case rel =>
                    refine ⟨k + 1, by omega, by go_num, ?_, ?_, by assumption, hc5⟩
                    · show Value.int .i64 _ = Value.int .i64 ((sm a k + mx (gi a k)) - (sm b k + mx (gi b k))); rw [Ex.out, Ey.out]; congr 1; omega
                    · intro j hj
                      by_cases e : j = k
                      · subst e; rw [Ex.out, Ey.out]; exact ⟨g1, g2, Hp.out⟩
                      · exact Hok.out j (by omega)
                  case measure => simp [intOf]; omega
              · have hp' : decide (r.p < ds x y) = true := decide_eq_true (by omega)
                have hp2 : decide (r.p < ds (x - y) 0) = true := by rw [ds_sub]; exact hp'
                have He : Hid (gd r a b = false) := gd_no (fun h => by have := h.2.2.2.2.1 k hlt; rw [Ex.out, Ey.out] at this; exact hp this)
                clear hp' hp
                rcases hxy with ⟨⟨pa, rfl⟩ | ⟨pa, rfl⟩, ⟨pb, rfl⟩ | ⟨pb, rfl⟩⟩
                all_goals
                  (try rw [Int.sub_zero] at hp2)
                  (try rw [Int.zero_sub] at hp2)
                  go_wp2_with fail
                  go_region
                  go_wp2_with fail
                  have hBd : Bk wr.drew w.heap.size 24 (rc r) := hB
                  have hbd : Below w.heap.size w wr.drew := hb.drew
                  generalize wr.drew = wd at hBd hbd ⊢
                  obtain ⟨⟨j0, j1, j2, j3⟩, -⟩ := bk4 hBd
                  have hzd := hBd.lt
                  refine Mm.region_ext (by kernel_rfl) (by kernel_rfl) ?_; (repeat (first | go_big_quiet_step ((go_at_call 29; exact Mm.calls_same (size_any _ (by omega) (by omega) _))) | quiet_step ((go_at_call 29; exact Mm.calls_same (size_any _ (by omega) (by omega) _))))); refine wpQuiet_nil ?_
                  intro w5 hb5
                  have hc5 : Below w.heap.size w w5 := bl_trans (by (repeat (first | with_reducible exact Below.refl _ _ | with_reducible assumption | with_reducible refine bl_drewN ?_ _ | with_reducible refine Below.drew ?_ | with_reducible refine bl_alloc ?_ _ | ((with_reducible refine Below.setCell ?_ ?_ _); rotate_left 1; focus (first | omega | (simp; done) | (simp; omega))) | with_reducible refine bl_trans ?_ (by with_reducible assumption)))) hb5
                  clear hb5
                  go_wp2_with fail
                  go_ret
                  exact ⟨ret_bool He.out.symm, hc5⟩
            · have gd1 : decide (200 < gi a k) = false := decide_eq_false (by omega)
              have gd2 : decide (200 < gi b k) = true := decide_eq_true (by omega)
              have He : Hid (gd r a b = false) := gd_no (fun h => by rw [tg_at k (by omega) (by omega : 200 < gi b k)] at h; exact absurd h.2.2.2.1 (by simp))
              go_wp2_with fail
              go_ret
              exact ⟨ret_bool He.out.symm, hb⟩
          · have gd1 : decide (200 < gi a k) = true := decide_eq_true (by omega)
            have He : Hid (gd r a b = false) := gd_no (fun h => by rw [tg_at k (by omega) (by omega : 200 < gi a k)] at h; exact absurd h.2.2.1 (by simp))
            go_wp2_with fail
            go_ret
            exact ⟨ret_bool He.out.symm, hb⟩
        · have Hk : Hid (k = a.length) := by unfold Hid; omega
          have He : Hid (gd r a b = decide (ds (sm a k - sm b k) 0 ≤ r.t)) := by
            unfold Hid
            have t1 : tg a = false := tg_no (by omega) (fun j hj => (Hok.out j (by omega)).1)
            have t2 : tg b = false := tg_no (by omega) (fun j hj => (Hok.out j (by omega)).2.1)
            rw [gd_end Hc.out Hl.out t1 t2 (fun j hj => (Hok.out j (by omega)).2.2), ← Hl.out, ← Hk.out, ds_sub]
          go_wp2_with fail
          refine Mm.region_ext (by kernel_rfl) (by kernel_rfl) ?_; (repeat (first | go_big_quiet_step ((go_at_call 29; exact Mm.calls_same (size_any _ (by omega) (by omega) _))) | quiet_step ((go_at_call 29; exact Mm.calls_same (size_any _ (by omega) (by omega) _))))); refine wpQuiet_nil ?_
          intro w5 hb5
          go_wp2_with fail
          go_ret
          exact ⟨ret_bool He.out.symm, bl_trans hb hb5⟩
  · have hn : ((a.length : Int) != b.length) = true := by simp; omega
    have He : Hid (gd r a b = false) := gd_no (fun h => hl h.2.1)
    go_enter Try.func17, Try.ntmps17
    go_wp2_with fail
    refine (rcheck_yes r Hc.out _).mono ?_
    rintro e w1 ⟨rfl, hb1⟩
    go_wp2_with fail
    go_ret
    exact ⟨ret_bool He.out.symm, bl_trans (by (repeat (first | with_reducible exact Below.refl _ _ | with_reducible refine bl_drewN ?_ _ | with_reducible refine Below.drew ?_ | with_reducible refine bl_alloc ?_ _ | with_reducible refine Below.alloc ?_ (by first | omega | (simp; done) | (simp; omega)) _ | with_reducible refine Below.setCell ?_ (by first | omega | (simp; done) | (simp; omega)) _ | with_reducible assumption))) hb1⟩
end Go.Proofs.Ytpgkiiaoddhdcaa.Mo
