/- Walks: Total and Maximum of the reference. -/
import Derived.Test.YtokddjohdodkmaaHH
import Derived.WalkKit
import Derived.WalkSpells
import Derived.WalkLawsBesides
import Derived.Deep.QuietTactic
import Derived.BigQuiet
import Derived.Deep.Draws
import Derived.Deep.AppendLies
import Derived.Laws.OwnMore
import Derived.Laws.BytesArg
import Derived.Lib.Hide
import Derived.Deep.LoopGhost
import Derived.Deep.CutBlock
import Derived.Laws.MakeOwn
import Derived.RegionTactic
namespace Go.Proofs.Ytokddjohdodkmaa.Tm
open Go.RowKit Go.Proofs.Ytokddjohdodkmaa.Mw
open Go.Proofs.Ytokddjohdodkmaa.Mm (RC)
set_option linter.unusedVariables false
set_option linter.unusedSimpArgs false

set_option maxHeartbeats 2000000 in
set_option maxRecDepth 100000 in
theorem rmaximum_any (p : Pa) (s : Sc)  (w : World) (hp : PaOk w p) (hs : ScOk w s)  :
    Calls Try.prog 24 #[pav p, scv s] w (RetNE (mxm p s) w) := by
  have HV := Lib.hid (show ∀ W, Below w.heap.size w W → Calls Try.prog 36 #[.agg #[.int .i64 p.c, .int .i64 p.v, .slice p.A p.l.length p.k], .agg #[.slice s.K s.ks.length s.ck, .slice s.W s.wd.length s.cw]] W fun e w' => e = .returned (.bool (sval p s)) ∧ Below W.heap.size W w' from fun W hW => rvalid_any p s W (hp.old hW) (hs.old hW))
  show Calls Try.prog 24 #[.agg #[.int .i64 p.c, .int .i64 p.v, .slice p.A p.l.length p.k], .agg #[.slice s.K s.ks.length s.ck, .slice s.W s.wd.length s.cw]] w _
  have hr0 := hp.rd
  have hk0 := hs.rk
  have hw0 := hs.rw
  generalize p.A = A at hr0 HV ⊢
  generalize s.K = K at hk0 HV ⊢
  generalize s.W = Wa at hw0 HV ⊢
  have HR := Lib.hid hr0
  have HK := Lib.hid hk0
  have HW := Lib.hid hw0
  have hl := hp.len
  have hlk := hs.lk
  have hlw := hs.lw
  have HLE := Lib.hid hs.le
  clear hr0 hk0 hw0 hp hs
  have hb0 : Below w.heap.size w ((w.alloc (.cells #[.int .i64 p.c, .int .i64 p.v, .slice A p.l.length p.k] 27)).alloc (.cells #[.slice K s.ks.length s.ck, .slice Wa s.wd.length s.cw] 31)) := by (repeat (first | with_reducible exact Below.refl _ _ | with_reducible refine bl_drewN ?_ _ | with_reducible refine Below.drew ?_ | with_reducible refine bl_alloc ?_ _ | with_reducible refine Below.alloc ?_ (by first | omega | (simp; done) | (simp; omega)) _ | with_reducible refine Below.setCell ?_ (by first | omega | (simp; done) | (simp; omega)) _ | with_reducible assumption))
  have B1 : Bk ((w.alloc (.cells #[.int .i64 p.c, .int .i64 p.v, .slice A p.l.length p.k] 27)).alloc (.cells #[.slice K s.ks.length s.ck, .slice Wa s.wd.length s.cw] 31)) w.heap.size 27 #[.int .i64 p.c, .int .i64 p.v, .slice A p.l.length p.k] := by (repeat (first | ((with_reducible refine Bk.new' ?_); (first | rfl | (simp; done) | (simp; omega))) | with_reducible refine Bk.alloc ?_ _ | with_reducible refine Bk.drewN ?_ _ | with_reducible refine Bk.drew ?_ | with_reducible assumption))
  have B2 : Bk ((w.alloc (.cells #[.int .i64 p.c, .int .i64 p.v, .slice A p.l.length p.k] 27)).alloc (.cells #[.slice K s.ks.length s.ck, .slice Wa s.wd.length s.cw] 31)) (w.heap.size + 1) 31 #[.slice K s.ks.length s.ck, .slice Wa s.wd.length s.cw] := by (repeat (first | ((with_reducible refine Bk.new' ?_); (first | rfl | (simp; done) | (simp; omega))) | with_reducible refine Bk.alloc ?_ _ | with_reducible refine Bk.drewN ?_ _ | with_reducible refine Bk.drew ?_ | with_reducible assumption))
  go_enter Try.func24, Try.ntmps24
  go_wp2_with fail
  refine (HV.out _ hb0).mono ?_
  rintro e w1 ⟨rfl, hb1⟩
  have hc1 := bl_trans hb0 hb1
  have C1 := B1.old hb1
  have C2 := B2.old hb1
  clear hb0 B1 B2 hb1
  have g1 := C1.lt
  have g2 := C2.lt
  obtain ⟨c0, c1, c2⟩ := bk3' C1
  obtain ⟨⟨d0, d1⟩, -⟩ := bk2 C2
  cases hv : sval p s
  · have Hz := Lib.hid (mxm_1 hv)
    go_wp2_with fail
    go_ret2
    exact ⟨by rw [Hz.out]; rfl, hc1⟩
  have HO := Lib.hid (sval_ok hv)
  have H1 := Lib.hid (sval_ok hv).lk
  have H2 := Lib.hid (sval_ok hv).lw
  have h24 := (sval_ok hv).len
  have Hv := Lib.hid hv
  have Hz := Lib.hid (mxm_0 hv)
  clear hv
  go_wp2_with fail
  go_loop [6, 7] (fun t i => ∃ j : Nat, j ≤ p.l.length ∧ i = .int .i64 j ∧ t = .int .i64 (msum p s j)) (fun _ i => p.l.length - (intOf i).toNat)
  case atStart => exact ⟨0, by omega, rfl, rfl⟩
  case round =>
    obtain ⟨j, hj, rfl, rfl⟩ := hrel
    by_cases hlt : j < p.l.length
    · obtain ⟨b, off, rfl, hbl, a0, a1, a2, a3, a4, a5⟩ := (HR.out.old hc1).at j hlt
      obtain ⟨wb, woff, rfl, hwl, hwc⟩ := (HW.out.old hc1) j (by have := H2.out; omega)
      have q0 : (0 : Int) ≤ j := by omega
      have q1 : (j : Int) < p.l.length := by omega
      have q3 : (j : Int) < s.wd.length := by have := H2.out; omega
      have hbd := msum_bd HO.out j hj
      have hbd2 := msum_bd HO.out (j + 1) hlt
      have hts : msum p s (j + 1) = msum p s j + mv (gp p.l j) (gi s.wd j) := rfl
      have hvp := (vp_iff _).1 (HO.out.part j hlt)
      have hm1 := hvp.1
      have hm2 := hvp.2.1
      clear hvp
      by_cases k2 : gi s.wd j = 2
      · have z2 : (gi s.wd j != 2) = false := by simp [k2]
        have EQ := mv_2 (p := gp p.l j) k2
        have Hts := Lib.hid (show msum p s (j + 1) = msum p s j by rw [hts, EQ]; omega)
        clear k2 EQ hts
        go_wp2_with fail
        go_round
        case rel => exact ⟨j + 1, by omega, by go_num, by rw [Hts.out]⟩
        case measure => simp [intOf]; omega
      · have z2 : (gi s.wd j != 2) = true := bne_iff_ne.2 k2
        have EQ := mv_0 (p := gp p.l j) k2
        have Hts := Lib.hid (show msum p s (j + 1) = msum p s j + (gp p.l j).m by rw [hts, EQ])
        clear k2 EQ hts
        generalize msum p s j = x at hbd Hts ⊢
        go_wp2_with fail
        go_round
        case rel => exact ⟨j + 1, by omega, by go_num, by rw [Hts.out]⟩
        case measure => simp [intOf]; omega
    · have hjn : j = p.l.length := by omega
      subst hjn
      go_wp2_with fail
      go_ret2
      exact ⟨by rw [Hz.out]; rfl, hc1⟩
set_option maxHeartbeats 2000000 in
set_option maxRecDepth 100000 in
theorem rtotal_any (p : Pa) (s : Sc) (ms : List Int) (M : Option Addr) (cM : Nat) (w : World) (hp : PaOk w p) (hs : ScOk w s) (hm : RdI w .i64 M ms) (hml : ms.length ≤ 9223372036854775807) :
    Calls Try.prog 22 #[pav p, scv s, .slice M ms.length cM] w (RetNE (ttl p s ms) w) := by
  have HV := Lib.hid (show ∀ W, Below w.heap.size w W → Calls Try.prog 36 #[.agg #[.int .i64 p.c, .int .i64 p.v, .slice p.A p.l.length p.k], .agg #[.slice s.K s.ks.length s.ck, .slice s.W s.wd.length s.cw]] W fun e w' => e = .returned (.bool (sval p s)) ∧ Below W.heap.size W w' from fun W hW => rvalid_any p s W (hp.old hW) (hs.old hW))
  have HM := Lib.hid hm
  have HMk := Lib.hid (show ∀ W, Below w.heap.size w W → Calls Try.prog 33 #[.agg #[.int .i64 p.c, .int .i64 p.v, .slice p.A p.l.length p.k], .agg #[.slice s.K s.ks.length s.ck, .slice s.W s.wd.length s.cw], .slice M ms.length cM] W fun e w' => e = .returned (.bool (mrk p s ms)) ∧ Below W.heap.size W w' from fun W hW => rmarked_any p s ms M cM W (hp.old hW) (hs.old hW) (hm.old hW) hml)
  clear hm
  show Calls Try.prog 22 #[.agg #[.int .i64 p.c, .int .i64 p.v, .slice p.A p.l.length p.k], .agg #[.slice s.K s.ks.length s.ck, .slice s.W s.wd.length s.cw], .slice M ms.length cM] w _
  have hr0 := hp.rd
  have hk0 := hs.rk
  have hw0 := hs.rw
  generalize p.A = A at hr0 HV HMk ⊢
  generalize s.K = K at hk0 HV HMk ⊢
  generalize s.W = Wa at hw0 HV HMk ⊢
  have HR := Lib.hid hr0
  have HK := Lib.hid hk0
  have HW := Lib.hid hw0
  have hl := hp.len
  have hlk := hs.lk
  have hlw := hs.lw
  have HLE := Lib.hid hs.le
  clear hr0 hk0 hw0 hp hs
  have hb0 : Below w.heap.size w ((w.alloc (.cells #[.int .i64 p.c, .int .i64 p.v, .slice A p.l.length p.k] 27)).alloc (.cells #[.slice K s.ks.length s.ck, .slice Wa s.wd.length s.cw] 31)) := by (repeat (first | with_reducible exact Below.refl _ _ | with_reducible refine bl_drewN ?_ _ | with_reducible refine Below.drew ?_ | with_reducible refine bl_alloc ?_ _ | with_reducible refine Below.alloc ?_ (by first | omega | (simp; done) | (simp; omega)) _ | with_reducible refine Below.setCell ?_ (by first | omega | (simp; done) | (simp; omega)) _ | with_reducible assumption))
  have B1 : Bk ((w.alloc (.cells #[.int .i64 p.c, .int .i64 p.v, .slice A p.l.length p.k] 27)).alloc (.cells #[.slice K s.ks.length s.ck, .slice Wa s.wd.length s.cw] 31)) w.heap.size 27 #[.int .i64 p.c, .int .i64 p.v, .slice A p.l.length p.k] := by (repeat (first | ((with_reducible refine Bk.new' ?_); (first | rfl | (simp; done) | (simp; omega))) | with_reducible refine Bk.alloc ?_ _ | with_reducible refine Bk.drewN ?_ _ | with_reducible refine Bk.drew ?_ | with_reducible assumption))
  have B2 : Bk ((w.alloc (.cells #[.int .i64 p.c, .int .i64 p.v, .slice A p.l.length p.k] 27)).alloc (.cells #[.slice K s.ks.length s.ck, .slice Wa s.wd.length s.cw] 31)) (w.heap.size + 1) 31 #[.slice K s.ks.length s.ck, .slice Wa s.wd.length s.cw] := by (repeat (first | ((with_reducible refine Bk.new' ?_); (first | rfl | (simp; done) | (simp; omega))) | with_reducible refine Bk.alloc ?_ _ | with_reducible refine Bk.drewN ?_ _ | with_reducible refine Bk.drew ?_ | with_reducible assumption))
  go_enter Try.func22, Try.ntmps22
  go_wp2_with fail
  refine (HV.out _ hb0).mono ?_
  rintro e w1 ⟨rfl, hb1⟩
  have hc1 := bl_trans hb0 hb1
  have C1 := B1.old hb1
  have C2 := B2.old hb1
  clear hb0 B1 B2 hb1
  have g1 := C1.lt
  have g2 := C2.lt
  obtain ⟨c0, c1, c2⟩ := bk3' C1
  obtain ⟨⟨d0, d1⟩, -⟩ := bk2 C2
  cases hv : sval p s
  · have Hz := Lib.hid (ttl_1 (ms := ms) hv)
    go_wp2_with fail
    go_ret2
    exact ⟨by rw [Hz.out]; rfl, hc1⟩
  have HO := Lib.hid (sval_ok hv)
  have H1 := Lib.hid (sval_ok hv).lk
  have H2 := Lib.hid (sval_ok hv).lw
  have h24 := (sval_ok hv).len
  have Hv := Lib.hid hv
  by_cases hq : ¬ ms.length = p.l.length
  · have Hz := Lib.hid (ttl_22 hv hq)
    clear hv
    go_wp2_with fail
    all_goals (first | (exfalso; omega) | (go_ret2; exact ⟨by rw [Hz.out]; rfl, hc1⟩))
  replace hq := Decidable.not_not.1 hq
  have t1 : ((ms.length : Int) != (p.l.length : Int)) = false := by simp [hq]
  have t1' : (ms.length != p.l.length) = false := by simp [hq]
  have H3 := Lib.hid hq
  clear hv hq
  go_wp2_with fail
  refine (HMk.out _ hc1).mono ?_
  rintro e w2 ⟨rfl, hb2⟩
  have D1 := C1.old hb2
  have D2 := C2.old hb2
  have hc2 := bl_trans hc1 hb2
  clear C1 C2 hc1 hb2 c0 c1 c2 d0 d1
  obtain ⟨c0, c1, c2⟩ := bk3' D1
  obtain ⟨⟨d0, d1⟩, -⟩ := bk2 D2
  cases hk : mrk p s ms
  · have Hz := Lib.hid (ttl_8 Hv.out H3.out hk)
    go_wp2_with fail
    go_ret2
    exact ⟨by rw [Hz.out]; rfl, hc2⟩
  have Hz := Lib.hid (ttl_0 hk)
  have Hk := Lib.hid hk
  clear hk
  go_wp2_with fail
  go_loop [8, 9] (fun t i => ∃ j : Nat, j ≤ p.l.length ∧ i = .int .i64 j ∧ t = .int .i64 (tsum p s ms j)) (fun _ i => p.l.length - (intOf i).toNat)
  case atStart => exact ⟨0, by omega, rfl, rfl⟩
  case round =>
    obtain ⟨j, hj, rfl, rfl⟩ := hrel
    by_cases hlt : j < p.l.length
    · obtain ⟨b, off, rfl, hbl, a0, a1, a2, a3, a4, a5⟩ := (HR.out.old hc2).at j hlt
      obtain ⟨wb, woff, rfl, hwl, hwc⟩ := (HW.out.old hc2) j (by have := H2.out; omega)
      have q0 : (0 : Int) ≤ j := by omega
      have q1 : (j : Int) < p.l.length := by omega
      have q3 : (j : Int) < s.wd.length := by have := H2.out; omega
      obtain ⟨mb, moff, rfl, hml2, hmc⟩ := (HM.out.old hc2) j (by have := H3.out; omega)
      have q2 : (j : Int) < ms.length := by have := H3.out; omega
      have z8 : decide ((j : Int) < (ms.length : Int)) = true := decide_eq_true q2
      have hbd := tsum_bd Hk.out j hj
      have hbd2 := tsum_bd Hk.out (j + 1) hlt
      have htb := tv_bd Hk.out j hlt
      have hts : tsum p s ms (j + 1) = tsum p s ms j + tv (gp p.l j) (gi s.wd j) (gi ms j) := rfl
      have hkn := HO.out.knd j hlt
      by_cases k0 : gi s.wd j = 0
      · have z0 : (gi s.wd j == 0) = true := beq_iff_eq.2 k0
        have EQ := tv_0 (p := gp p.l j) (w := gi s.wd j) (m := gi ms j) (by omega) (by omega)
        rcases Int.lt_trichotomy (gi ms j) 0 with k3 | k3 | k3
        · have y1 : decide (gi ms j < 0) = true := decide_eq_true k3
          have Hts := Lib.hid (show tsum p s ms (j + 1) = tsum p s ms j by rw [hts, EQ]; omega)
          clear k0 EQ hts htb hbd2
          generalize tsum p s ms j = x at hbd Hts ⊢
          go_wp2_with fail
          go_round
          case rel => exact ⟨j + 1, by omega, by go_num, by first | (rw [Hts.out]; done) | (rw [Hts.out]; congr 1; omega)⟩
          case measure => simp [intOf]; omega
        · have y1 : decide (gi ms j < 0) = false := decide_eq_false (by omega)
          have y2 : decide (0 < gi ms j) = false := decide_eq_false (by omega)
          have Hts := Lib.hid (show tsum p s ms (j + 1) = tsum p s ms j by rw [hts, EQ]; omega)
          clear k0 EQ hts htb hbd2
          generalize tsum p s ms j = x at hbd Hts ⊢
          go_wp2_with fail
          go_round
          case rel => exact ⟨j + 1, by omega, by go_num, by first | (rw [Hts.out]; done) | (rw [Hts.out]; congr 1; omega)⟩
          case measure => simp [intOf]; omega
        · have y1 : decide (gi ms j < 0) = false := decide_eq_false (by omega)
          have y2 : decide (0 < gi ms j) = true := decide_eq_true k3
          rw [EQ] at htb
          have hg40 : gi ms j ≤ 40 := by omega
          have Hts := Lib.hid (show tsum p s ms (j + 1) = tsum p s ms j + gi ms j by rw [hts, EQ]; omega)
          clear k0 EQ hts htb hbd2
          generalize tsum p s ms j = x at hbd Hts ⊢
          go_wp2_with fail
          go_round
          case rel => exact ⟨j + 1, by omega, by go_num, by rw [Hts.out]⟩
          case measure => simp [intOf]; omega
      · have z0 : (gi s.wd j == 0) = false := beq_eq_false_iff_ne.2 k0
        by_cases k1 : gi s.wd j = 1
        · have z1 : (gi s.wd j == 1) = true := beq_iff_eq.2 k1
          have EQ := tv_1 (p := gp p.l j) (m := gi ms j) k1
          rw [EQ] at htb
          have hg40 : (gp p.l j).m ≤ 40 := by omega
          have hg0 : 0 ≤ (gp p.l j).m := by omega
          have Hts := Lib.hid (show tsum p s ms (j + 1) = tsum p s ms j + (gp p.l j).m by rw [hts, EQ])
          clear k0 k1 EQ hts htb hbd2
          generalize tsum p s ms j = x at hbd Hts ⊢
          go_wp2_with fail
          go_round
          case rel => exact ⟨j + 1, by omega, by go_num, by rw [Hts.out]⟩
          case measure => simp [intOf]; omega
        · have z1 : (gi s.wd j == 1) = false := beq_eq_false_iff_ne.2 k1
          have EQ := tv_2 (p := gp p.l j) (w := gi s.wd j) (m := gi ms j) (by omega)
          have Hts := Lib.hid (show tsum p s ms (j + 1) = tsum p s ms j by rw [hts, EQ]; omega)
          clear k0 k1 EQ hts htb hbd2
          go_wp2_with fail
          go_round
          case rel => exact ⟨j + 1, by omega, by go_num, by rw [Hts.out]⟩
          case measure => simp [intOf]; omega
    · have hjn : j = p.l.length := by omega
      have z9 : decide ((j : Int) < (ms.length : Int)) = false := decide_eq_false (by have := H3.out; omega)
      have z9' : decide (j < ms.length) = false := decide_eq_false (by have := H3.out; omega)
      have Hjn := Lib.hid hjn
      clear hjn
      go_wp2_with fail
      go_ret2
      exact ⟨by rw [Hz.out, ← Hjn.out]; rfl, hc2⟩
end Go.Proofs.Ytokddjohdodkmaa.Tm
