/- Walks: Valid of the reference. -/
import Derived.Test.YtokddjohdodkmaaHB
import Derived.WalkKit
import Derived.WalkSpells
import Derived.WalkLawsBesides
import Derived.Deep.QuietTactic
import Derived.BigQuiet
import Derived.Deep.Draws
import Derived.Deep.AppendLies
import Derived.Laws.OwnMore
import Derived.Laws.BytesArg
import Derived.Lib.Hide
import Derived.Deep.LoopGhost
namespace Go.Proofs.Ytokddjohdodkmaa.Tm
open Go.RowKit Go.Proofs.Ytokddjohdodkmaa.Mw
open Go.Proofs.Ytokddjohdodkmaa.Mm (RC)
set_option linter.unusedVariables false
set_option linter.unusedSimpArgs false

theorem sub_at' (k : Nat) (h : ¬ k = 0) : ((k : Int) - 1).toNat = k - 1 := by omega
set_option maxHeartbeats 2000000 in
set_option maxRecDepth 100000 in
theorem rvalid_any (p : Pa) (s : Sc) (w : World) (hp : PaOk w p) (hs : ScOk w s) :
    Calls Try.prog 36 #[pav p, scv s] w fun e w' => e = .returned (.bool (sval p s)) ∧ Below w.heap.size w w' := by
  have HV := Lib.hid (show ∀ W, Below w.heap.size w W → Calls Try.prog 53 #[.agg #[.int .i64 p.c, .int .i64 p.v, .slice p.A p.l.length p.k]] W fun e w' => e = .returned (.bool (vpp p.c p.v p.l)) ∧ Below W.heap.size W w' from fun W hW => rvpaper_any p.c p.v p.A p.l p.k W (by have := hp.len; omega) (hp.rd.old hW))
  show Calls Try.prog 36 #[.agg #[.int .i64 p.c, .int .i64 p.v, .slice p.A p.l.length p.k], .agg #[.slice s.K s.ks.length s.ck, .slice s.W s.wd.length s.cw]] w _
  have hr0 := hp.rd
  have hk0 := hs.rk
  have hw0 := hs.rw
  generalize p.A = A at hr0 HV ⊢
  generalize s.K = K at hk0 ⊢
  generalize s.W = Wa at hw0 ⊢
  have HR := Lib.hid hr0
  have HK := Lib.hid hk0
  have HW := Lib.hid hw0
  have hl := hp.len
  have hlk := hs.lk
  have hlw := hs.lw
  have HLE := Lib.hid hs.le
  clear hr0 hk0 hw0 hp hs
  have hb0 : Below w.heap.size w ((w.alloc (.cells #[.int .i64 p.c, .int .i64 p.v, .slice A p.l.length p.k] 27)).alloc (.cells #[.slice K s.ks.length s.ck, .slice Wa s.wd.length s.cw] 31)) := by (repeat (first | with_reducible exact Below.refl _ _ | with_reducible refine bl_drewN ?_ _ | with_reducible refine Below.drew ?_ | with_reducible refine bl_alloc ?_ _ | with_reducible refine Below.alloc ?_ (by first | omega | (simp; done) | (simp; omega)) _ | with_reducible refine Below.setCell ?_ (by first | omega | (simp; done) | (simp; omega)) _ | with_reducible assumption))
  have B1 : Bk ((w.alloc (.cells #[.int .i64 p.c, .int .i64 p.v, .slice A p.l.length p.k] 27)).alloc (.cells #[.slice K s.ks.length s.ck, .slice Wa s.wd.length s.cw] 31)) w.heap.size 27 #[.int .i64 p.c, .int .i64 p.v, .slice A p.l.length p.k] := by (repeat (first | ((with_reducible refine Bk.new' ?_); (first | rfl | (simp; done) | (simp; omega))) | with_reducible refine Bk.alloc ?_ _ | with_reducible refine Bk.drewN ?_ _ | with_reducible refine Bk.drew ?_ | with_reducible assumption))
  have B2 : Bk ((w.alloc (.cells #[.int .i64 p.c, .int .i64 p.v, .slice A p.l.length p.k] 27)).alloc (.cells #[.slice K s.ks.length s.ck, .slice Wa s.wd.length s.cw] 31)) (w.heap.size + 1) 31 #[.slice K s.ks.length s.ck, .slice Wa s.wd.length s.cw] := by (repeat (first | ((with_reducible refine Bk.new' ?_); (first | rfl | (simp; done) | (simp; omega))) | with_reducible refine Bk.alloc ?_ _ | with_reducible refine Bk.drewN ?_ _ | with_reducible refine Bk.drew ?_ | with_reducible assumption))
  go_enter Try.func36, Try.ntmps36
  go_wp2_with fail
  refine (HV.out _ hb0).mono ?_
  rintro e w1 ⟨rfl, hb1⟩
  have hc1 := bl_trans hb0 hb1
  have C1 := B1.old hb1
  have C2 := B2.old hb1
  clear hb0 B1 B2 hb1 HV
  obtain ⟨c0, c1, c2⟩ := bk3' C1
  obtain ⟨⟨d0, d1⟩, _⟩ := bk2 C2
  cases hv : vpp p.c p.v p.l
  · have Hv := Lib.hid (sval_no1 (s := s) hv)
    go_wp2_with fail
    go_ret
    exact ⟨ret_bool Hv.out.symm, hc1⟩
  by_cases h1 : ¬ s.ks.length = p.l.length
  · have Hv := Lib.hid (sval_no2 h1)
    go_wp2_with fail
    all_goals (first | (exfalso; omega) | (go_ret; exact ⟨ret_bool Hv.out.symm, hc1⟩))
  replace h1 := Decidable.not_not.1 h1
  by_cases h2 : ¬ s.wd.length = p.l.length
  · have Hv := Lib.hid (sval_no3 h2)
    go_wp2_with fail
    all_goals (first | (exfalso; omega) | (go_ret; exact ⟨ret_bool Hv.out.symm, hc1⟩))
  replace h2 := Decidable.not_not.1 h2
  have Hv := Lib.hid hv
  have t1 : ((s.ks.length : Int) != (p.l.length : Int)) = false := by simp [h1]
  have t2 : ((s.wd.length : Int) != (p.l.length : Int)) = false := by simp [h2]
  have t1' : (s.ks.length != p.l.length) = false := by simp [h1]
  have t2' : (s.wd.length != p.l.length) = false := by simp [h2]
  have H1 := Lib.hid h1
  have H2 := Lib.hid h2
  clear hv h1 h2
  go_wp2_with fail
  go_loopw [6] (fun i wr => ∃ j : Nat, j ≤ p.l.length ∧ i = .int .i64 j ∧ Hid (∀ m, m < j → svAt p s m = true) ∧ Bk wr w.heap.size 27 #[.int .i64 p.c, .int .i64 p.v, .slice A p.l.length p.k] ∧ Bk wr (w.heap.size + 1) 31 #[.slice K s.ks.length s.ck, .slice Wa s.wd.length s.cw] ∧ Below w.heap.size w wr) (fun i _ => p.l.length - (intOf i).toNat)
  case atStart => exact ⟨0, by omega, rfl, fun j hj => absurd hj (by omega), C1, C2, hc1⟩
  case round =>
    clear C1 C2 hc1 c0 c1 c2 d0 d1
    obtain ⟨j, hj, rfl, Hok, C1, C2, hb⟩ := hrel
    by_cases hlt : j < p.l.length
    · obtain ⟨b, off, rfl, hbl, a0, a1, a2, a3, a4, a5⟩ := (HR.out.old hb).at j hlt
      obtain ⟨kb, koff, rfl, hkl, hkc, hkr⟩ := (HK.out.old hb) j (by have := H1.out; omega)
      obtain ⟨wb, woff, rfl, hwl, hwc⟩ := (HW.out.old hb) j (by have := H2.out; omega)
      have d0 : wr.cell? ⟨w.heap.size + 1, 0, none⟩ = some (.slice (some ⟨kb, koff, none⟩) s.ks.length s.ck) := C2.cell 0
      have d1 : wr.cell? ⟨w.heap.size + 1, 1, none⟩ = some (.slice (some ⟨wb, woff, none⟩) s.wd.length s.cw) := C2.cell 1
      have e2 : wr.cell? ⟨w.heap.size, 2, none⟩ = some (.slice (some ⟨b, off, none⟩) p.l.length p.k) := C1.cell 2
      have hkl2 := HLE.out j (by have := H1.out; omega)
      have q0 : (0 : Int) ≤ j := by omega
      have q1 : (j : Int) < p.l.length := by omega
      have q2 : (j : Int) < s.ks.length := by have := H1.out; omega
      have q3 : (j : Int) < s.wd.length := by have := H2.out; omega
      cases e3 : knd (gi s.wd j)
      · have Hz := Lib.hid (sval_no4 j hlt (sv_no2 e3))
        have h4 := decide_eq_false_iff_not.1 e3
        go_wp2_with fail
        all_goals (first | (exfalso; omega) | (go_ret; exact ⟨ret_bool Hz.out.symm, hb⟩))
      · have h4 := decide_eq_true_iff.1 e3
        obtain ⟨h4, h5⟩ := h4
        have E3 := Lib.hid e3
        clear e3
        go_wp2_with fail
        clear a0 a1 a2 a3 a4 a5 hkc hkr hwc d0 d1 e2
        obtain ⟨wo, hwo⟩ : ∃ wo : World, wo = wr := ⟨_, rfl⟩
        subst hwo
        go_loopw [7] (fun i wr => ∃ k : Nat, k ≤ (gk s.ks j).l.length ∧ i = .int .i64 k ∧ Hid (∀ m, m < k → kAt (gp p.l j).n (gk s.ks j).l m = true) ∧ Bk wr w.heap.size 27 #[.int .i64 p.c, .int .i64 p.v, .slice (some ⟨b, off, none⟩) p.l.length p.k] ∧ Bk wr (w.heap.size + 1) 31 #[.slice (some ⟨kb, koff, none⟩) s.ks.length s.ck, .slice (some ⟨wb, woff, none⟩) s.wd.length s.cw] ∧ Below w.heap.size w wr) (fun i _ => (gk s.ks j).l.length - (intOf i).toNat)
        case atStart => exact ⟨0, by omega, rfl, fun j hj => absurd hj (by omega), C1, C2, hb⟩
        case round =>
          clear C1 C2 hb hbl hkl hwl
          obtain ⟨k, hk, rfl, Hokk, C1, C2, hb⟩ := hrel
          obtain ⟨b', off', hA, hbl, a0, a1, a2, a3, a4, a5⟩ := (HR.out.old hb).at j hlt
          cases hA
          obtain ⟨kb', koff', hK, hkl, hkc, hkr⟩ := (HK.out.old hb) j (by have := H1.out; omega)
          cases hK
          obtain ⟨wb', woff', hW, hwl, hwc⟩ := (HW.out.old hb) j (by have := H2.out; omega)
          cases hW
          have d0 : wr.cell? ⟨w.heap.size + 1, 0, none⟩ = some (.slice (some ⟨kb, koff, none⟩) s.ks.length s.ck) := C2.cell 0
          have d1 : wr.cell? ⟨w.heap.size + 1, 1, none⟩ = some (.slice (some ⟨wb, woff, none⟩) s.wd.length s.cw) := C2.cell 1
          have e2 : wr.cell? ⟨w.heap.size, 2, none⟩ = some (.slice (some ⟨b, off, none⟩) p.l.length p.k) := C1.cell 2
          by_cases hltk : k < (gk s.ks j).l.length
          · obtain ⟨xb, xoff, hX, hxl, hxc⟩ := hkr k hltk
            have hkc' : wr.cell? ⟨kb, koff + j, none⟩ = some (.slice (some ⟨xb, xoff, none⟩) (gk s.ks j).l.length (gk s.ks j).c) := by rw [← hX]; exact hkc
            clear hkc
            have r0 : (0 : Int) ≤ k := by omega
            have r1 : (k : Int) < (gk s.ks j).l.length := by omega
            by_cases h6 : 0 ≤ gi (gk s.ks j).l k
            · have g6 : decide (gi (gk s.ks j).l k < 0) = false := decide_eq_false (by omega)
              by_cases h7 : gi (gk s.ks j).l k < (gp p.l j).n
              · have g7 : decide ((gp p.l j).n ≤ gi (gk s.ks j).l k) = false := decide_eq_false (by omega)
                by_cases h8 : k = 0
                · have g8 : decide ((0 : Int) < (k : Int)) = false := decide_eq_false (by omega)
                  have g8' : decide (0 < k) = false := decide_eq_false (by omega)
                  have Hy := Lib.hid (k_yes h6 h7 (.inl h8))
                  clear h8
                  go_wp2_with fail
                  go_quiet (fail)
                  go_wp2_with fail
                  go_roundw
                  case rel =>
                    refine ⟨k + 1, by omega, by go_num, fun m hm => ?_, by (repeat (first | with_reducible assumption | with_reducible refine Bk.drewN ?_ _ | with_reducible refine Bk.drew ?_ | with_reducible refine Bk.alloc ?_ _)), by (repeat (first | with_reducible assumption | with_reducible refine Bk.drewN ?_ _ | with_reducible refine Bk.drew ?_ | with_reducible refine Bk.alloc ?_ _)), by (repeat (first | with_reducible exact Below.refl _ _ | with_reducible refine bl_drewN ?_ _ | with_reducible refine Below.drew ?_ | with_reducible refine bl_alloc ?_ _ | with_reducible refine Below.alloc ?_ (by first | omega | (simp; done) | (simp; omega)) _ | with_reducible refine Below.setCell ?_ (by first | omega | (simp; done) | (simp; omega)) _ | with_reducible assumption))⟩
                    by_cases hjk : m = k
                    · subst hjk; exact Hy.out
                    · exact Hokk.out m (by omega)
                  case measure => simp [intOf]; omega
                · obtain ⟨xb', xoff', hX', _, hxc'⟩ := hkr (k - 1) (by omega)
                  rw [hX] at hX'
                  cases hX'
                  have g8 : decide ((0 : Int) < (k : Int)) = true := decide_eq_true (by omega)
                  have g8' : decide (0 < k) = true := decide_eq_true (by omega)
                  have r2 : (0 : Int) ≤ (k : Int) - 1 := by omega
                  have r3 : (k : Int) - 1 < (gk s.ks j).l.length := by omega
                  have r4 := sub_at' k h8
                  by_cases h9 : gi (gk s.ks j).l (k - 1) < gi (gk s.ks j).l k
                  · have g9 : decide (gi (gk s.ks j).l k ≤ gi (gk s.ks j).l (k - 1)) = false := decide_eq_false (by omega)
                    have Hy := Lib.hid (k_yes h6 h7 (.inr h9))
                    go_wp2_with fail
                    go_quiet (fail)
                    go_wp2_with fail
                    go_roundw
                    case rel =>
                      refine ⟨k + 1, by omega, by go_num, fun m hm => ?_, by (repeat (first | with_reducible assumption | with_reducible refine Bk.drewN ?_ _ | with_reducible refine Bk.drew ?_ | with_reducible refine Bk.alloc ?_ _)), by (repeat (first | with_reducible assumption | with_reducible refine Bk.drewN ?_ _ | with_reducible refine Bk.drew ?_ | with_reducible refine Bk.alloc ?_ _)), by (repeat (first | with_reducible exact Below.refl _ _ | with_reducible refine bl_drewN ?_ _ | with_reducible refine Below.drew ?_ | with_reducible refine bl_alloc ?_ _ | with_reducible refine Below.alloc ?_ (by first | omega | (simp; done) | (simp; omega)) _ | with_reducible refine Below.setCell ?_ (by first | omega | (simp; done) | (simp; omega)) _ | with_reducible assumption))⟩
                      by_cases hjk : m = k
                      · subst hjk; exact Hy.out
                      · exact Hokk.out m (by omega)
                    case measure => simp [intOf]; omega
                  · have g9 : decide (gi (gk s.ks j).l k ≤ gi (gk s.ks j).l (k - 1)) = true := decide_eq_true (by omega)
                    have Hz := Lib.hid (sval_no4 j hlt (sv_no1 (p := p) (s := s) (allI_false k hltk (k_no3 h8 h9))))
                    go_wp2_with fail
                    go_quiet (fail)
                    go_wp2_with fail
                    go_ret
                    exact ⟨ret_bool Hz.out.symm, by (repeat (first | with_reducible exact Below.refl _ _ | with_reducible refine bl_drewN ?_ _ | with_reducible refine Below.drew ?_ | with_reducible refine bl_alloc ?_ _ | with_reducible refine Below.alloc ?_ (by first | omega | (simp; done) | (simp; omega)) _ | with_reducible refine Below.setCell ?_ (by first | omega | (simp; done) | (simp; omega)) _ | with_reducible assumption))⟩
              · have g7 : decide ((gp p.l j).n ≤ gi (gk s.ks j).l k) = true := decide_eq_true (by omega)
                have Hz := Lib.hid (sval_no4 j hlt (sv_no1 (p := p) (s := s) (allI_false k hltk (k_no (by omega)))))
                go_wp2_with fail
                go_quiet (fail)
                go_wp2_with fail
                go_ret
                exact ⟨ret_bool Hz.out.symm, by (repeat (first | with_reducible exact Below.refl _ _ | with_reducible refine bl_drewN ?_ _ | with_reducible refine Below.drew ?_ | with_reducible refine bl_alloc ?_ _ | with_reducible refine Below.alloc ?_ (by first | omega | (simp; done) | (simp; omega)) _ | with_reducible refine Below.setCell ?_ (by first | omega | (simp; done) | (simp; omega)) _ | with_reducible assumption))⟩
            · have g6 : decide (gi (gk s.ks j).l k < 0) = true := decide_eq_true (by omega)
              have Hz := Lib.hid (sval_no4 j hlt (sv_no1 (p := p) (s := s) (allI_false k hltk (k_no (by omega)))))
              go_wp2_with fail
              go_quiet (fail)
              go_wp2_with fail
              go_ret
              exact ⟨ret_bool Hz.out.symm, by (repeat (first | with_reducible exact Below.refl _ _ | with_reducible refine bl_drewN ?_ _ | with_reducible refine Below.drew ?_ | with_reducible refine bl_alloc ?_ _ | with_reducible refine Below.alloc ?_ (by first | omega | (simp; done) | (simp; omega)) _ | with_reducible refine Below.setCell ?_ (by first | omega | (simp; done) | (simp; omega)) _ | with_reducible assumption))⟩
          · have Hy := Lib.hid (sv_yes (p := p) (s := s) (allI_true fun m hm => Hokk.out m (by omega)) E3.out)
            go_wp2_with fail
            go_roundw
            case rel =>
              refine ⟨j + 1, by omega, by go_num, fun m hm => ?_, C1, C2, hb⟩
              by_cases hjk : m = j
              · subst hjk; exact Hy.out
              · exact Hok.out m (by omega)
            case measure => simp [intOf]; omega
    · have Hz := Lib.hid (show sval p s = true from sval_mk Hv.out H1.out H2.out fun m hm => Hok.out m (by omega))
      go_wp2_with fail
      go_ret
      exact ⟨ret_bool Hz.out.symm, hb⟩
end Go.Proofs.Ytokddjohdodkmaa.Tm
