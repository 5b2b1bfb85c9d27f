/- Walk: the statement IdentitySwaps. -/
import Derived.Test.YtpdekglmmgecmaaIQ
import Derived.WalkKit
import Derived.WalkSpells
import Derived.WalkLawsBesides
import Derived.Deep.QuietTactic
import Derived.BigQuiet
import Derived.Deep.Draws
import Derived.Deep.AppendLies
import Derived.Laws.OwnMore
import Derived.Laws.BytesArg
import Derived.Lib.Hide
import Derived.Deep.LoopGhost
import Derived.RegionTactic
namespace Go.Proofs.Ytpdekglmmgecmaa.Id
open Go.RowKit
set_option linter.unusedSimpArgs false

set_option maxHeartbeats 2000000 in
theorem swaps_any (n i k : Int) (hn : I64 n) (hi : I64 i) (hk : I64 k) (w : World) :
    Calls Try.prog 6 #[.int .i64 n, .int .i64 i, .int .i64 k] w fun e w' => e = .returned (.bool true) ∧ Below w.heap.size w w' := by
  have t1 := td_I64 n 128 hn.1 hn.2 (by omega)
  have t2 := td_I64 n 16384 hn.1 hn.2 (by omega)
  have K1 := Lib.hid (cut_any n 100 (by omega) (by omega) hn.1 hn.2)
  have K2 := Lib.hid (cut_any (n.tdiv 128) 100 (by omega) (by omega) t1.1 t1.2)
  have K3 := Lib.hid (cut_any (n.tdiv 16384) 10000 (by omega) (by omega) t2.1 t2.2)
  have K4 := Lib.hid (cut_any i 8 (by omega) (by omega) hi.1 hi.2)
  have K5 := Lib.hid (cut_any k 8 (by omega) (by omega) hk.1 hk.2)
  have a0 := Int.emod_nonneg n (show (100 : Int) ≠ 0 by omega)
  have a1 := Int.emod_lt_of_pos n (show (0 : Int) < 100 by omega)
  have b0 := Int.emod_nonneg (n.tdiv 128) (show (100 : Int) ≠ 0 by omega)
  have b1 := Int.emod_lt_of_pos (n.tdiv 128) (show (0 : Int) < 100 by omega)
  have c0 := Int.emod_nonneg (n.tdiv 16384) (show (10000 : Int) ≠ 0 by omega)
  have c1 := Int.emod_lt_of_pos (n.tdiv 16384) (show (0 : Int) < 10000 by omega)
  have i0 := Int.emod_nonneg i (show (8 : Int) ≠ 0 by omega)
  have i1 := Int.emod_lt_of_pos i (show (0 : Int) < 8 by omega)
  have k0 := Int.emod_nonneg k (show (8 : Int) ≠ 0 by omega)
  have k1 := Int.emod_lt_of_pos k (show (0 : Int) < 8 by omega)
  generalize n % 100 = A at *
  generalize n.tdiv 128 % 100 = B at *
  generalize n.tdiv 16384 % 10000 = C at *
  obtain ⟨p, hp⟩ := Int.eq_ofNat_of_zero_le i0
  obtain ⟨q, hq⟩ := Int.eq_ofNat_of_zero_le k0
  rw [hp] at i0 i1 K4
  rw [hq] at k0 k1 K5
  have KF := Lib.hid (format_yes A B C (by simp [vldB]; omega))
  obtain ⟨M, hM⟩ : ∃ M, (A * 100 + B) * 100 * 100 + C = M := ⟨_, rfl⟩
  rw [hM] at KF
  have hn0 := hn.1
  have hn1 := hn.2
  have hsz := fmt_size M
  have hby : ∀ (j : Nat) (h : j < (fmtS M).size), (((fmtS M)[j]'h).toNat : Int) = byt (fmtS M) j := fun j h => (byt_at (fmtS M) j h).symm
  clear hn hi hk hM hp hq t1 t2
  by_cases hpq : byt (fmtS M) p = byt (fmtS M) q
  · have hpq' : (byt (fmtS M) p == byt (fmtS M) q) = true := by simpa using hpq
    clear hpq
    go_enter Try.func6, Try.ntmps6
    go_wp2_with fail
    refine (K1.out _).mono ?_
    rintro e w1 ⟨rfl, rfl⟩
    go_wp2_with fail
    refine (K2.out _).mono ?_
    rintro e w1 ⟨rfl, rfl⟩
    go_wp2_with fail
    refine (K3.out _).mono ?_
    rintro e w1 ⟨rfl, rfl⟩
    go_wp2_with fail
    refine (KF.out _).mono ?_
    rintro e w1 ⟨rfl, hb1⟩
    go_wp2_with fail
    refine (K4.out _).mono ?_
    rintro e w1 ⟨rfl, rfl⟩
    go_wp2_with fail
    refine (K5.out _).mono ?_
    rintro e w1 ⟨rfl, rfl⟩
    go_wp2_with fail
    go_quiet (fail)
    go_wp2_with fail
    refine (awake_any _).mono ?_
    rintro e w5 ⟨rfl, hb5⟩
    have hc5 : Below w.heap.size w w5 := bl_trans (by (repeat (first | with_reducible exact Below.refl _ _ | with_reducible refine bl_drewN ?_ _ | with_reducible refine Below.drew ?_ | with_reducible refine bl_alloc ?_ _ | with_reducible refine Below.alloc ?_ (by first | omega | (simp; done) | (simp; omega)) _ | with_reducible refine Below.setCell ?_ (by first | omega | (simp; done) | (simp; omega)) _ | with_reducible assumption))) hb5
    go_wp2
    go_ret
    exact ⟨rfl, hc5⟩
  · have hpq' : (byt (fmtS M) p == byt (fmtS M) q) = false := by simpa using hpq
    have hne : p ≠ q := fun e => hpq (by rw [e])
    have Hpq := Lib.hid hpq
    clear hpq
    go_enter Try.func6, Try.ntmps6
    go_wp2_with fail
    refine (K1.out _).mono ?_
    rintro e w1 ⟨rfl, rfl⟩
    go_wp2_with fail
    refine (K2.out _).mono ?_
    rintro e w1 ⟨rfl, rfl⟩
    go_wp2_with fail
    refine (K3.out _).mono ?_
    rintro e w1 ⟨rfl, rfl⟩
    go_wp2_with fail
    refine (KF.out _).mono ?_
    rintro e w1 ⟨rfl, hb1⟩
    go_wp2_with fail
    refine (K4.out _).mono ?_
    rintro e w1 ⟨rfl, rfl⟩
    go_wp2_with fail
    refine (K5.out _).mono ?_
    rintro e w1 ⟨rfl, rfl⟩
    go_wp2_with fail
    go_quiet (fail)
    obtain ⟨cap, w2, hcv, hb2, hl2, hcap, hCF⟩ := bytes_of (w1.drewN nq) (fmtS M)
    rw [hsz] at hcv hcap hCF
    simp only [World.heap_drewN] at hcv hb2 hl2 hCF
    have hc2 : Below w.heap.size w w2 := bl_trans (b := w1.drewN nq) (by (repeat (first | with_reducible exact Below.refl _ _ | with_reducible refine bl_drewN ?_ _ | with_reducible refine Below.drew ?_ | with_reducible refine bl_alloc ?_ _ | with_reducible refine Below.alloc ?_ (by first | omega | (simp; done) | (simp; omega)) _ | with_reducible refine Below.setCell ?_ (by first | omega | (simp; done) | (simp; omega)) _ | with_reducible assumption))) hb2
    obtain ⟨p1, p2⟩ := hCF p (by omega)
    obtain ⟨q1, q2⟩ := hCF q (by omega)
    have Hcf := Lib.hid hCF
    clear hCF hb2
    go_wp2_with fail
    go_region
    have hcv2 := conv9' ((w2.setCell ⟨w1.heap.size, p, none⟩ (.int .u8 (byt (fmtS M) q))).setCell ⟨w1.heap.size, q, none⟩ (.int .u8 (byt (fmtS M) p))).drew w1.heap.size cap (swp (byt (fmtS M)) p q) (((Hcf.out.set p (byt (fmtS M) q)).set q (byt (fmtS M) p)).blk9)
    have hpe := swap_pe M p q (by omega) (by omega) Hpq.out (swp (byt (fmtS M)) p q) (fun _ _ => rfl)
    have htz : (strOfNums [swp (byt (fmtS M)) p q 0, swp (byt (fmtS M)) p q 1, swp (byt (fmtS M)) p q 2, swp (byt (fmtS M)) p q 3, swp (byt (fmtS M)) p q 4, swp (byt (fmtS M)) p q 5, swp (byt (fmtS M)) p q 6, swp (byt (fmtS M)) p q 7, swp (byt (fmtS M)) p q 8]).size ≤ maxLen := by
      rw [strOfNums_size]; show 9 ≤ maxLen; decide
    generalize strOfNums [swp (byt (fmtS M)) p q 0, swp (byt (fmtS M)) p q 1, swp (byt (fmtS M)) p q 2, swp (byt (fmtS M)) p q 3, swp (byt (fmtS M)) p q 4, swp (byt (fmtS M)) p q 5, swp (byt (fmtS M)) p q 6, swp (byt (fmtS M)) p q 7, swp (byt (fmtS M)) p q 8] = t at *
    have PP := parse_any t htz
    rw [hpe] at PP
    have HP := Lib.hid PP
    have hc3 : Below w.heap.size w ((w2.setCell ⟨w1.heap.size, p, none⟩ (.int .u8 (byt (fmtS M) q))).setCell ⟨w1.heap.size, q, none⟩ (.int .u8 (byt (fmtS M) p))).drew := by
      have hg : w.heap.size ≤ w1.heap.size := hb1.size
      exact Below.drew (Below.setCell (Below.setCell hc2 hg _) hg _)
    clear PP hpe htz hcv p1 p2 q1 q2
    generalize ((w2.setCell ⟨w1.heap.size, p, none⟩ (.int .u8 (byt (fmtS M) q))).setCell ⟨w1.heap.size, q, none⟩ (.int .u8 (byt (fmtS M) p))).drew = w3 at *
    go_wp2_with fail
    refine (HP.out _).mono ?_
    rintro e w4 ⟨rfl, hb4⟩
    have hc4 : Below w.heap.size w w4 := bl_trans hc3 hb4
    clear hb4
    go_wp2_with fail
    refine (awake_any _).mono ?_
    rintro e w5 ⟨rfl, hb5⟩
    have hc5 : Below w.heap.size w w5 := bl_trans (by (repeat (first | with_reducible exact Below.refl _ _ | with_reducible refine bl_drewN ?_ _ | with_reducible refine Below.drew ?_ | with_reducible refine bl_alloc ?_ _ | with_reducible refine Below.alloc ?_ (by first | omega | (simp; done) | (simp; omega)) _ | with_reducible refine Below.setCell ?_ (by first | omega | (simp; done) | (simp; omega)) _ | with_reducible assumption))) hb5
    go_wp2
    go_ret
    exact ⟨rfl, hc5⟩
end Go.Proofs.Ytpdekglmmgecmaa.Id
