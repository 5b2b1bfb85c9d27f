/- Walks: Closed of the reference. -/
import Derived.Test.YtokddjohdodkmaaHJ
import Derived.WalkKit
import Derived.WalkSpells
import Derived.WalkLawsBesides
import Derived.Deep.QuietTactic
import Derived.BigQuiet
import Derived.Deep.Draws
import Derived.Deep.AppendLies
import Derived.Laws.OwnMore
import Derived.Laws.BytesArg
import Derived.Lib.Hide
import Derived.Deep.LoopGhost
import Derived.Deep.CutBlock
import Derived.Laws.MakeOwn
import Derived.RegionTactic
namespace Go.Proofs.Ytokddjohdodkmaa.Tm
open Go.RowKit Go.Proofs.Ytokddjohdodkmaa.Mw
open Go.Proofs.Ytokddjohdodkmaa.Mm (RC)
set_option linter.unusedVariables false
set_option linter.unusedSimpArgs false

set_option maxHeartbeats 4000000 in
set_option maxRecDepth 100000 in
theorem rclosed_any (p : Pa) (s : Sc) (an : List Int) (M : Option Addr) (cM : Nat) (w : World) (hp : PaOk w p) (hs : ScOk w s) (hm : RdI w .i64 M an) (hml : an.length ≤ 9223372036854775807) :
    Calls Try.prog 17 #[pav p, scv s, .slice M an.length cM] w (RetIE (clo p s an) w) := by
  have HV := Lib.hid (show ∀ W, Below w.heap.size w W → Calls Try.prog 36 #[.agg #[.int .i64 p.c, .int .i64 p.v, .slice p.A p.l.length p.k], .agg #[.slice s.K s.ks.length s.ck, .slice s.W s.wd.length s.cw]] W fun e w' => e = .returned (.bool (sval p s)) ∧ Below W.heap.size W w' from fun W hW => rvalid_any p s W (hp.old hW) (hs.old hW))
  have HM := Lib.hid hm
  have HPm := Lib.hid (show ∀ (i : Nat) (m : Int) W, Below w.heap.size w W → Mm.RC 38 #[.agg #[.int .i64 p.c, .int .i64 p.v, .slice p.A p.l.length p.k], .agg #[.slice s.K s.ks.length s.ck, .slice s.W s.wd.length s.cw], .int .i64 (i : Int), .int .i64 m] W (.bool (accS p s (i : Int) m)) from fun i m W hW => Mm.RC.of fun V hV => raccepts_any p s i m V (hp.old (bl_trans hW hV)) (hs.old (bl_trans hW hV)))
  clear hm
  show Calls Try.prog 17 #[.agg #[.int .i64 p.c, .int .i64 p.v, .slice p.A p.l.length p.k], .agg #[.slice s.K s.ks.length s.ck, .slice s.W s.wd.length s.cw], .slice M an.length cM] w _
  have hr0 := hp.rd
  have hk0 := hs.rk
  have hw0 := hs.rw
  generalize p.A = A at hr0 HV HPm ⊢
  generalize s.K = K at hk0 HV HPm ⊢
  generalize s.W = Wa at hw0 HV HPm ⊢
  have HR := Lib.hid hr0
  have HK := Lib.hid hk0
  have HW := Lib.hid hw0
  have hl := hp.len
  have hlk := hs.lk
  have hlw := hs.lw
  have HLE := Lib.hid hs.le
  clear hr0 hk0 hw0 hp hs
  have hb0 : Below w.heap.size w ((w.alloc (.cells #[.int .i64 p.c, .int .i64 p.v, .slice A p.l.length p.k] 27)).alloc (.cells #[.slice K s.ks.length s.ck, .slice Wa s.wd.length s.cw] 31)) := by (repeat (first | with_reducible exact Below.refl _ _ | with_reducible refine bl_drewN ?_ _ | with_reducible refine Below.drew ?_ | with_reducible refine bl_alloc ?_ _ | with_reducible refine Below.alloc ?_ (by first | omega | (simp; done) | (simp; omega)) _ | with_reducible refine Below.setCell ?_ (by first | omega | (simp; done) | (simp; omega)) _ | with_reducible assumption))
  have B1 : Bk ((w.alloc (.cells #[.int .i64 p.c, .int .i64 p.v, .slice A p.l.length p.k] 27)).alloc (.cells #[.slice K s.ks.length s.ck, .slice Wa s.wd.length s.cw] 31)) w.heap.size 27 #[.int .i64 p.c, .int .i64 p.v, .slice A p.l.length p.k] := by (repeat (first | ((with_reducible refine Bk.new' ?_); (first | rfl | (simp; done) | (simp; omega))) | with_reducible refine Bk.alloc ?_ _ | with_reducible refine Bk.drewN ?_ _ | with_reducible refine Bk.drew ?_ | with_reducible assumption))
  have B2 : Bk ((w.alloc (.cells #[.int .i64 p.c, .int .i64 p.v, .slice A p.l.length p.k] 27)).alloc (.cells #[.slice K s.ks.length s.ck, .slice Wa s.wd.length s.cw] 31)) (w.heap.size + 1) 31 #[.slice K s.ks.length s.ck, .slice Wa s.wd.length s.cw] := by (repeat (first | ((with_reducible refine Bk.new' ?_); (first | rfl | (simp; done) | (simp; omega))) | with_reducible refine Bk.alloc ?_ _ | with_reducible refine Bk.drewN ?_ _ | with_reducible refine Bk.drew ?_ | with_reducible assumption))
  go_enter Try.func17, Try.ntmps17
  go_wp2_with fail
  refine (HV.out _ hb0).mono ?_
  rintro e w1 ⟨rfl, hb1⟩
  have hc1 := bl_trans hb0 hb1
  have C1 := B1.old hb1
  have C2 := B2.old hb1
  clear hb0 B1 B2 hb1
  have g1 := C1.lt
  have g2 := C2.lt
  obtain ⟨c0, c1, c2⟩ := bk3' C1
  obtain ⟨⟨d0, d1⟩, -⟩ := bk2 C2
  obtain ⟨i0, hi0, hz0, hz1, hz2⟩ := info_parts infoInt
  cases hv : sval p s
  · have Hz := Lib.hid (clo_1 (an := an) hv)
    go_wp2_with fail
    go_ret2
    exact ret_nil 1 hc1 Hz.out
  have HO := Lib.hid (sval_ok hv)
  have H1 := Lib.hid (sval_ok hv).lk
  have H2 := Lib.hid (sval_ok hv).lw
  have h24 := (sval_ok hv).len
  have Hv := Lib.hid hv
  by_cases hq : ¬ an.length = p.l.length
  · have Hz := Lib.hid (clo_22 hv hq)
    clear hv
    go_wp2_with fail
    all_goals (first | (exfalso; omega) | (go_ret2; exact ret_nil 22 hc1 Hz.out))
  replace hq := Decidable.not_not.1 hq
  have t1 : ((an.length : Int) != (p.l.length : Int)) = false := by simp [hq]
  have t1' : (an.length != p.l.length) = false := by simp [hq]
  have H3 := Lib.hid hq
  clear hv hq
  go_wp2_with fail
  go_loopw [8, 9] (fun x i wr => ∃ j : Nat, j ≤ p.l.length ∧ i = .int .i64 j ∧ Hid (∀ m, m < j → inR (gp p.l m) (gi an m) = true) ∧ wr.ownsRow (w.heap.size + 2) 3 1 x (mks p s an j).length ((mks p s an j).map (Value.int .i64)) ∧ Bk wr w.heap.size 27 #[.int .i64 p.c, .int .i64 p.v, .slice A p.l.length p.k] ∧ Bk wr (w.heap.size + 1) 31 #[.slice K s.ks.length s.ck, .slice Wa s.wd.length s.cw] ∧ Below w.heap.size w wr) (fun _ i _ => p.l.length - (intOf i).toNat)
  case atStart => exact ⟨0, by omega, rfl, fun j hj => absurd hj (by omega), World.ownsRow_nil _ _ _ _, C1, C2, hc1⟩
  case round =>
    clear C1 C2 hc1 c0 c1 c2 d0 d1
    obtain ⟨j, hj, rfl, Hok, hown, C1, C2, hb⟩ := hrel
    have hmk := mks_len p s an j
    have g1 := C1.lt
    have g2 := C2.lt
    obtain ⟨c0, c1, c2⟩ := bk3' C1
    obtain ⟨⟨d0, d1⟩, -⟩ := bk2 C2
    by_cases hlt : j < p.l.length
    · obtain ⟨b, off, rfl, hbl, a0, a1, a2, a3, a4, a5⟩ := (HR.out.old hb).at j hlt
      obtain ⟨mb, moff, rfl, hml2, hmc⟩ := (HM.out.old hb) j (by have := H3.out; omega)
      have q0 : (0 : Int) ≤ j := by omega
      have q1 : (j : Int) < p.l.length := by omega
      have q2 : (j : Int) < an.length := by have := H3.out; omega
      have z8 : decide ((j : Int) < (an.length : Int)) = true := decide_eq_true q2
      have hvp := (vp_iff _).1 (HO.out.part j hlt)
      have hms : mks p s an (j + 1) = mks p s an j ++ [mk1 (gp p.l j) (gk s.ks j).l (gi an j)] := rfl
      have Hmk := Lib.hid hmk
      have hmk24 : (mks p s an j).length ≤ 24 := by omega
      clear hmk
      by_cases k1 : (gp p.l j).k = 1
      · have z1 : ((gp p.l j).k == 1) = true := beq_iff_eq.2 k1
        rw [mk_open k1] at hms
        have Hms := Lib.hid hms
        have Hy := Lib.hid (inR_k (p := gp p.l j) (a := gi an j) (by omega))
        clear hms k1 hvp
        go_wp2_with (at_builtin; refine wpList_append_own _ rfl _ _ 22 rfl (w.heap.size + 2) 3 i0 (.int .i64 0) 1 8 Try.underlying22 hi0 hz0 hz1 hz2 rfl (by decide) _ _ _ rfl (hown.alloc _) ⟨wr.heap.size, 0, none⟩ 1 1 [_] rfl rfl (one_cell _ _ _ _ rfl) ?c2 ?c3 ?c4 ?c5 ?_)
        case c2 => simp [Value.oneCell']
        case c3 => simp only [maxLen]; omega
        case c4 => omega
        case c5 => first | omega | (simp; omega)
        intro v6 w6 hown6 hgrow6 _
        have hb6 : Below w.heap.size w w6 := Below.grown (bl_alloc hb _) hgrow6 (by have := hb.size; simp; omega) (fun q hq => by have := (hown.lt q hq).1; omega)
        have D1 := (C1.alloc _).grown hgrow6 (fun e => by have := (hown.lt _ e.symm).1; omega)
        have D2 := (C2.alloc _).grown hgrow6 (fun e => by have := (hown.lt _ e.symm).1; omega)
        have hown7 : w6.ownsRow (w.heap.size + 2) 3 1 v6 (mks p s an (j + 1)).length ((mks p s an (j + 1)).map (Value.int .i64)) := by
          rw [Hms.out, List.map_append, List.length_append]; exact hown6
        clear hown6 hgrow6 hown hb C1 C2
        go_wp2_with fail
        go_roundw
        case rel =>
          refine ⟨j + 1, by omega, by go_num, fun m hm => ?_, hown7, D1, D2, hb6⟩
          by_cases hjk : m = j
          · subst hjk; exact Hy.out
          · exact Hok.out m (by omega)
        case measure => simp [intOf]; omega
      · have z1 : ((gp p.l j).k == 1) = false := beq_eq_false_iff_ne.2 k1
        have k2 : (gp p.l j).k = 2 := by omega
        by_cases r1 : gi an j < -2
        · have y1 : decide (gi an j < -2) = true := decide_eq_true r1
          have Hz := Lib.hid (clo_2 Hv.out H3.out j hlt (inR_n k2 (by omega)))
          clear k1 k2 hvp hms
          go_wp2_with fail
          go_quiet (fail)
          go_wp2_with fail
          go_ret2
          exact ret_nil 2 (by (repeat (first | with_reducible exact Below.refl _ _ | with_reducible refine bl_drewN ?_ _ | with_reducible refine Below.drew ?_ | with_reducible refine bl_alloc ?_ _ | with_reducible refine Below.alloc ?_ (by first | omega | (simp; done) | (simp; omega)) _ | with_reducible refine Below.setCell ?_ (by first | omega | (simp; done) | (simp; omega)) _ | with_reducible assumption))) Hz.out
        by_cases r2 : ¬ gi an j < (gp p.l j).n
        · have y1 : decide (gi an j < -2) = false := decide_eq_false r1
          have y2 : decide ((gp p.l j).n ≤ gi an j) = true := decide_eq_true (by omega)
          have Hz := Lib.hid (clo_2 Hv.out H3.out j hlt (inR_n k2 (by omega)))
          clear k1 k2 hvp hms
          go_wp2_with fail
          go_quiet (fail)
          go_wp2_with fail
          go_ret2
          exact ret_nil 2 (by (repeat (first | with_reducible exact Below.refl _ _ | with_reducible refine bl_drewN ?_ _ | with_reducible refine Below.drew ?_ | with_reducible refine bl_alloc ?_ _ | with_reducible refine Below.alloc ?_ (by first | omega | (simp; done) | (simp; omega)) _ | with_reducible refine Below.setCell ?_ (by first | omega | (simp; done) | (simp; omega)) _ | with_reducible assumption))) Hz.out
        replace r2 := Decidable.not_not.1 r2
        have y1 : decide (gi an j < -2) = false := decide_eq_false r1
        have y2 : decide ((gp p.l j).n ≤ gi an j) = false := decide_eq_false (by omega)
        have Hy := Lib.hid (inR_y (p := gp p.l j) (a := gi an j) (by omega))
        have hneg := fun h : gi an j < 0 => acc_neg HO.out j hlt k2 (gi an j) h
        have HA := Lib.hid (accS_y (m := gi an j) Hv.out hlt k2)
        have K1 := Lib.hid k1
        clear k1 k2 hvp
        go_wp2_with fail
        refine Mm.region_ext (by kernel_rfl) (by kernel_rfl) ?_; (repeat (first | go_big_quiet_step (fail) | quiet_step (fail))); refine wpQuiet_nil ?_
        intro w5 hb5
        have E1 := C1.old hb5
        have E2 := C2.old hb5
        have hown5 := own_old hown hb5
        have hb5' := bl_trans hb hb5
        clear C1 C2 hown hb hb5 c0 c1 c2 d0 d1 a0 a1 a2 a3 a4 a5 hmc hbl hml2
        obtain ⟨c0, c1, c2⟩ := bk3' E1
        obtain ⟨⟨d0, d1⟩, -⟩ := bk2 E2
        have e1 := E1.lt
        have e2 := E2.lt
        obtain ⟨mb', moff', hM', hml3, hmc⟩ := (HM.out.old hb5') j (by have := H3.out; omega)
        cases hM'
        have R1 := HPm.out j (gi an j) w5 hb5'
        rw [HA.out] at R1
        cases hac : acc (gp p.l j) (gk s.ks j).l (gi an j)
        · rw [hac] at R1
          go_wp2_with fail
          refine Mm.region_ext (by kernel_rfl) (by kernel_rfl) ?_; (repeat (first | go_big_quiet_step ((exact Mm.RC.call (by with_reducible assumption) _)) | quiet_step ((exact Mm.RC.call (by with_reducible assumption) _)))); refine wpQuiet_nil ?_
          intro w7 hb7
          have F1 := E1.old hb7
          have F2 := E2.old hb7
          have hownx := own_old hown5 hb7
          have hbx := bl_trans hb5' hb7
          clear E1 E2 hown5 hb5' hb7 c0 c1 c2 d0 d1 hmc hml3 R1 e1 e2
          obtain ⟨c0, c1, c2⟩ := bk3' F1
          obtain ⟨mb'', moff'', hM'', hml4, hmc⟩ := (HM.out.old hbx) j (by have := H3.out; omega)
          cases hM''
          obtain ⟨b', off', e', hbl, a0, a1, a2, a3, a4, a5⟩ := (HR.out.old hbx).at j hlt
          cases e'
          have f2 := F2.lt
          by_cases r3 : gi an j = -1
          · have z3 : (gi an j == -1) = true := beq_iff_eq.2 r3
            rw [mk_na K1.out hac r3] at hms
            have Hms := Lib.hid hms
            clear hms r3 hneg
            go_wp2_with (at_builtin; refine wpList_append_own _ rfl _ _ 22 rfl (w.heap.size + 2) 3 i0 (.int .i64 0) 1 8 Try.underlying22 hi0 hz0 hz1 hz2 rfl (by decide) _ _ _ rfl (hownx.alloc _) ⟨w7.heap.size, 0, none⟩ 1 1 [_] rfl rfl (one_cell _ _ _ _ rfl) ?c2 ?c3 ?c4 ?c5 ?_)
            case c2 => simp [Value.oneCell']
            case c3 => simp only [maxLen]; omega
            case c4 => omega
            case c5 => first | omega | (simp; omega)
            intro v6 w6 hown6 hgrow6 _
            have hb6 : Below w.heap.size w w6 := Below.grown (bl_alloc hbx _) hgrow6 (by have := hbx.size; simp; omega) (fun q hq => by have := (hownx.lt q hq).1; omega)
            have D1 := (F1.alloc _).grown hgrow6 (fun e => by have := (hownx.lt _ e.symm).1; omega)
            have D2 := (F2.alloc _).grown hgrow6 (fun e => by have := (hownx.lt _ e.symm).1; omega)
            have hown7 : w6.ownsRow (w.heap.size + 2) 3 1 v6 (mks p s an (j + 1)).length ((mks p s an (j + 1)).map (Value.int .i64)) := by
              rw [Hms.out, List.map_append, List.length_append]; exact hown6
            clear hown6 hgrow6 hownx hbx F1 F2
            go_wp2_with fail
            go_roundw
            case rel =>
              refine ⟨j + 1, by omega, by go_num, fun m hm => ?_, hown7, D1, D2, hb6⟩
              by_cases hjk : m = j
              · subst hjk; exact Hy.out
              · exact Hok.out m (by omega)
            case measure => simp [intOf]; omega
          · have z3 : (gi an j == -1) = false := beq_eq_false_iff_ne.2 r3
            rw [mk_no K1.out hac r3] at hms
            have Hms := Lib.hid hms
            clear hms r3 hneg
            go_wp2_with (at_builtin; refine wpList_append_own _ rfl _ _ 22 rfl (w.heap.size + 2) 3 i0 (.int .i64 0) 1 8 Try.underlying22 hi0 hz0 hz1 hz2 rfl (by decide) _ _ _ rfl (hownx.alloc _) ⟨w7.heap.size, 0, none⟩ 1 1 [_] rfl rfl (one_cell _ _ _ _ rfl) ?c2 ?c3 ?c4 ?c5 ?_)
            case c2 => simp [Value.oneCell']
            case c3 => simp only [maxLen]; omega
            case c4 => omega
            case c5 => first | omega | (simp; omega)
            intro v6 w6 hown6 hgrow6 _
            have hb6 : Below w.heap.size w w6 := Below.grown (bl_alloc hbx _) hgrow6 (by have := hbx.size; simp; omega) (fun q hq => by have := (hownx.lt q hq).1; omega)
            have D1 := (F1.alloc _).grown hgrow6 (fun e => by have := (hownx.lt _ e.symm).1; omega)
            have D2 := (F2.alloc _).grown hgrow6 (fun e => by have := (hownx.lt _ e.symm).1; omega)
            have hown7 : w6.ownsRow (w.heap.size + 2) 3 1 v6 (mks p s an (j + 1)).length ((mks p s an (j + 1)).map (Value.int .i64)) := by
              rw [Hms.out, List.map_append, List.length_append]; exact hown6
            clear hown6 hgrow6 hownx hbx F1 F2
            go_wp2_with fail
            go_roundw
            case rel =>
              refine ⟨j + 1, by omega, by go_num, fun m hm => ?_, hown7, D1, D2, hb6⟩
              by_cases hjk : m = j
              · subst hjk; exact Hy.out
              · exact Hok.out m (by omega)
            case measure => simp [intOf]; omega
        · have r3 : ¬ gi an j < 0 := fun h => by have := hneg h; rw [hac] at this; cases this
          have z3 : (gi an j == -1) = false := beq_eq_false_iff_ne.2 (by omega)
          rw [mk_acc K1.out hac] at hms
          have Hms := Lib.hid hms
          rw [hac] at R1
          clear hms hneg
          go_wp2_with fail
          refine Mm.region_ext (by kernel_rfl) (by kernel_rfl) ?_; (repeat (first | go_big_quiet_step ((exact Mm.RC.call (by with_reducible assumption) _)) | quiet_step ((exact Mm.RC.call (by with_reducible assumption) _)))); refine wpQuiet_nil ?_
          intro w7 hb7
          have F1 := E1.old hb7
          have F2 := E2.old hb7
          have hownx := own_old hown5 hb7
          have hbx := bl_trans hb5' hb7
          clear E1 E2 hown5 hb5' hb7 c0 c1 c2 d0 d1 hmc hml3 R1 e1 e2
          obtain ⟨c0, c1, c2⟩ := bk3' F1
          obtain ⟨mb'', moff'', hM'', hml4, hmc⟩ := (HM.out.old hbx) j (by have := H3.out; omega)
          cases hM''
          obtain ⟨b', off', e', hbl, a0, a1, a2, a3, a4, a5⟩ := (HR.out.old hbx).at j hlt
          cases e'
          have f2 := F2.lt
          go_wp2_with (at_builtin; refine wpList_append_own _ rfl _ _ 22 rfl (w.heap.size + 2) 3 i0 (.int .i64 0) 1 8 Try.underlying22 hi0 hz0 hz1 hz2 rfl (by decide) _ _ _ rfl (hownx.alloc _) ⟨w7.heap.size, 0, none⟩ 1 1 [_] rfl rfl (one_cell _ _ _ _ rfl) ?c2 ?c3 ?c4 ?c5 ?_)
          case c2 => simp [Value.oneCell']
          case c3 => simp only [maxLen]; omega
          case c4 => omega
          case c5 => first | omega | (simp; omega)
          intro v6 w6 hown6 hgrow6 _
          have hb6 : Below w.heap.size w w6 := Below.grown (bl_alloc hbx _) hgrow6 (by have := hbx.size; simp; omega) (fun q hq => by have := (hownx.lt q hq).1; omega)
          have D1 := (F1.alloc _).grown hgrow6 (fun e => by have := (hownx.lt _ e.symm).1; omega)
          have D2 := (F2.alloc _).grown hgrow6 (fun e => by have := (hownx.lt _ e.symm).1; omega)
          have hown7 : w6.ownsRow (w.heap.size + 2) 3 1 v6 (mks p s an (j + 1)).length ((mks p s an (j + 1)).map (Value.int .i64)) := by
            rw [Hms.out, List.map_append, List.length_append]; exact hown6
          clear hown6 hgrow6 hownx hbx F1 F2
          go_wp2_with fail
          go_roundw
          case rel =>
            refine ⟨j + 1, by omega, by go_num, fun m hm => ?_, hown7, D1, D2, hb6⟩
            by_cases hjk : m = j
            · subst hjk; exact Hy.out
            · exact Hok.out m (by omega)
          case measure => simp [intOf]; omega
    · have hjn : j = p.l.length := by omega
      have Hz := Lib.hid (clo_0 Hv.out H3.out fun i hi => Hok.out i (by omega))
      have z9 : decide ((j : Int) < (an.length : Int)) = false := decide_eq_false (by have := H3.out; omega)
      have z9' : decide (j < an.length) = false := decide_eq_false (by have := H3.out; omega)
      have Hjn := Lib.hid hjn
      obtain ⟨A9, c9, rfl, hr9, ha9⟩ := own_ints hown
      have hf9 := own_frozen hown
      clear hown hjn
      go_wp2_with fail
      go_ret2
      refine ⟨A9, c9, ?_, ?_, fun a ha => ?_, hf9, hb⟩
      · rw [Hz.out, ← Hjn.out]; rfl
      · rw [Hz.out, ← Hjn.out]; exact hr9
      · have := ha9 a ha; omega
end Go.Proofs.Ytokddjohdodkmaa.Tm
