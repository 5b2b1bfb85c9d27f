/- Walks: Total and Maximum of the program. -/
import Derived.Test.YtokddjohdodkmaaHD
import Derived.WalkKit
import Derived.WalkSpells
import Derived.WalkLawsBesides
import Derived.Deep.QuietTactic
import Derived.BigQuiet
import Derived.Deep.Draws
import Derived.Deep.AppendLies
import Derived.Laws.OwnMore
import Derived.Laws.BytesArg
import Derived.Lib.Hide
import Derived.Deep.LoopGhost
import Derived.Deep.CutBlock
import Derived.Laws.MakeOwn
import Derived.RegionTactic
namespace Go.Proofs.Ytokddjohdodkmaa.Tm
open Go.RowKit Go.Proofs.Ytokddjohdodkmaa.Mw
open Go.Proofs.Ytokddjohdodkmaa.Mm (RC)
set_option linter.unusedVariables false
set_option linter.unusedSimpArgs false

theorem tv_1 {p : Pt} {w m : Int} (h : w = 1) : tv p w m = p.m := by unfold tv; rw [if_pos h]
theorem tv_2 {p : Pt} {w m : Int} (h : w = 2) : tv p w m = 0 := by unfold tv; rw [if_neg (by omega), if_pos h]
theorem tv_0 {p : Pt} {w m : Int} (h1 : ¬ w = 1) (h2 : ¬ w = 2) : tv p w m = max m 0 := by unfold tv; rw [if_neg h1, if_neg h2]
theorem mv_2 {p : Pt} {w : Int} (h : w = 2) : mv p w = 0 := by unfold mv; rw [if_pos h]
theorem mv_0 {p : Pt} {w : Int} (h : ¬ w = 2) : mv p w = p.m := by unfold mv; rw [if_neg h]
set_option maxHeartbeats 1000000 in
theorem cloT_any (q : Pt) (s : Sc) (ms : List Int) (j : Nat) (w : World) (K Wa M : Option Addr) (cM gs gm : Nat) (hwd : RdI w .i64 Wa s.wd) (hm : RdI w .i64 M ms) (hs : Bk w gs 31 #[.slice K s.ks.length s.ck, .slice Wa s.wd.length s.cw]) (hmb : Bk w gm 22 #[.slice M ms.length cM]) (h1 : j < s.wd.length) (h2 : j < ms.length) (h3 : s.wd.length ≤ 1000) (h4 : ms.length ≤ 1000) :
    Calls Try.prog 46 #[.int .i64 (j : Int), pv q, .pointer (some ⟨gs, 0, none⟩), .pointer (some ⟨gm, 0, none⟩)] w fun e w' => e = .returned (.int .i64 (tv q (gi s.wd j) (gi ms j))) ∧ Below w.heap.size w w' := by
  obtain ⟨wb, woff, rfl, hwl, hwc⟩ := hwd j h1
  obtain ⟨mb, moff, rfl, hml2, hmc⟩ := hm j h2
  obtain ⟨⟨d0, d1⟩, -⟩ := bk2 hs
  have m0 : w.cell? ⟨gm, 0, none⟩ = some (.slice (some ⟨mb, moff, none⟩) ms.length cM) := hmb.cell 0
  have g1 := hs.lt
  have g2 := hmb.lt
  have q0 : (0 : Int) ≤ j := by omega
  have q1 : (j : Int) < s.wd.length := by omega
  have q2 : (j : Int) < ms.length := by omega
  clear hwd hm hs hmb
  by_cases k1 : gi s.wd j = 1
  · have z1 : (gi s.wd j == 1) = true := beq_iff_eq.2 k1
    have Ht := Lib.hid (tv_1 (p := q) (m := gi ms j) k1)
    clear k1
    go_enter Try.func46, Try.ntmps46
    go_wp2_with fail
    go_ret
    exact ⟨ret_int Ht.out.symm, by (repeat (first | with_reducible exact Below.refl _ _ | with_reducible refine bl_drewN ?_ _ | with_reducible refine Below.drew ?_ | with_reducible refine bl_alloc ?_ _ | with_reducible refine Below.alloc ?_ (by first | omega | (simp; done) | (simp; omega)) _ | with_reducible refine Below.setCell ?_ (by first | omega | (simp; done) | (simp; omega)) _ | with_reducible assumption))⟩
  · have z1 : (gi s.wd j == 1) = false := beq_eq_false_iff_ne.2 k1
    by_cases k2 : gi s.wd j = 2
    · have z2 : (gi s.wd j == 2) = true := beq_iff_eq.2 k2
      have Ht := Lib.hid (tv_2 (p := q) (m := gi ms j) k2)
      clear k1 k2
      go_enter Try.func46, Try.ntmps46
      go_wp2_with fail
      go_ret
      exact ⟨ret_int Ht.out.symm, by (repeat (first | with_reducible exact Below.refl _ _ | with_reducible refine bl_drewN ?_ _ | with_reducible refine Below.drew ?_ | with_reducible refine bl_alloc ?_ _ | with_reducible refine Below.alloc ?_ (by first | omega | (simp; done) | (simp; omega)) _ | with_reducible refine Below.setCell ?_ (by first | omega | (simp; done) | (simp; omega)) _ | with_reducible assumption))⟩
    · have z2 : (gi s.wd j == 2) = false := beq_eq_false_iff_ne.2 k2
      have Ht := Lib.hid (tv_0 (p := q) (m := gi ms j) k1 k2)
      clear k1 k2
      rcases Int.lt_trichotomy (gi ms j) 0 with k3 | k3 | k3
      · have y1 : decide (gi ms j < 0) = true := decide_eq_true k3
        have Ht' := Lib.hid (Ht.out.trans (show max (gi ms j) 0 = 0 by omega))
        go_enter Try.func46, Try.ntmps46
        go_wp2_with fail
        all_goals (go_ret; exact ⟨ret_int (by first | exact Ht'.out.symm | (rw [Ht'.out]; omega)), by (repeat (first | with_reducible exact Below.refl _ _ | with_reducible refine bl_drewN ?_ _ | with_reducible refine Below.drew ?_ | with_reducible refine bl_alloc ?_ _ | with_reducible refine Below.alloc ?_ (by first | omega | (simp; done) | (simp; omega)) _ | with_reducible refine Below.setCell ?_ (by first | omega | (simp; done) | (simp; omega)) _ | with_reducible assumption))⟩)
      · have Ht' := Lib.hid (Ht.out.trans (show max (gi ms j) 0 = 0 by omega))
        have y1 : decide (gi ms j < 0) = false := decide_eq_false (by omega)
        have y2 : decide (0 < gi ms j) = false := decide_eq_false (by omega)
        go_enter Try.func46, Try.ntmps46
        go_wp2_with fail
        all_goals (go_ret; exact ⟨ret_int (by first | exact Ht'.out.symm | (rw [Ht'.out]; omega)), by (repeat (first | with_reducible exact Below.refl _ _ | with_reducible refine bl_drewN ?_ _ | with_reducible refine Below.drew ?_ | with_reducible refine bl_alloc ?_ _ | with_reducible refine Below.alloc ?_ (by first | omega | (simp; done) | (simp; omega)) _ | with_reducible refine Below.setCell ?_ (by first | omega | (simp; done) | (simp; omega)) _ | with_reducible assumption))⟩)
      · have Ht' := Lib.hid (Ht.out.trans (show max (gi ms j) 0 = gi ms j by omega))
        have y1 : decide (gi ms j < 0) = false := decide_eq_false (by omega)
        have y2 : decide (0 < gi ms j) = true := decide_eq_true k3
        go_enter Try.func46, Try.ntmps46
        go_wp2_with fail
        all_goals (go_ret; exact ⟨ret_int (by first | exact Ht'.out.symm | (rw [Ht'.out]; omega)), by (repeat (first | with_reducible exact Below.refl _ _ | with_reducible refine bl_drewN ?_ _ | with_reducible refine Below.drew ?_ | with_reducible refine bl_alloc ?_ _ | with_reducible refine Below.alloc ?_ (by first | omega | (simp; done) | (simp; omega)) _ | with_reducible refine Below.setCell ?_ (by first | omega | (simp; done) | (simp; omega)) _ | with_reducible assumption))⟩)
set_option maxHeartbeats 1000000 in
theorem cloM_any (q : Pt) (s : Sc) (j : Nat) (w : World) (K Wa : Option Addr) (gs : Nat) (hwd : RdI w .i64 Wa s.wd) (hs : Bk w gs 31 #[.slice K s.ks.length s.ck, .slice Wa s.wd.length s.cw]) (h1 : j < s.wd.length) (h3 : s.wd.length ≤ 1000) :
    Calls Try.prog 47 #[.int .i64 (j : Int), pv q, .pointer (some ⟨gs, 0, none⟩)] w fun e w' => e = .returned (.int .i64 (mv q (gi s.wd j))) ∧ Below w.heap.size w w' := by
  obtain ⟨wb, woff, rfl, hwl, hwc⟩ := hwd j h1
  obtain ⟨⟨d0, d1⟩, -⟩ := bk2 hs
  have g1 := hs.lt
  have q0 : (0 : Int) ≤ j := by omega
  have q1 : (j : Int) < s.wd.length := by omega
  clear hwd hs
  by_cases k2 : gi s.wd j = 2
  · have z2 : (gi s.wd j == 2) = true := beq_iff_eq.2 k2
    have Ht := Lib.hid (mv_2 (p := q) k2)
    clear k2
    go_enter Try.func47, Try.ntmps47
    go_wp2_with fail
    go_ret
    exact ⟨ret_int Ht.out.symm, by (repeat (first | with_reducible exact Below.refl _ _ | with_reducible refine bl_drewN ?_ _ | with_reducible refine Below.drew ?_ | with_reducible refine bl_alloc ?_ _ | with_reducible refine Below.alloc ?_ (by first | omega | (simp; done) | (simp; omega)) _ | with_reducible refine Below.setCell ?_ (by first | omega | (simp; done) | (simp; omega)) _ | with_reducible assumption))⟩
  · have z2 : (gi s.wd j == 2) = false := beq_eq_false_iff_ne.2 k2
    have Ht := Lib.hid (mv_0 (p := q) k2)
    clear k2
    go_enter Try.func47, Try.ntmps47
    go_wp2_with fail
    go_ret
    exact ⟨ret_int Ht.out.symm, by (repeat (first | with_reducible exact Below.refl _ _ | with_reducible refine bl_drewN ?_ _ | with_reducible refine Below.drew ?_ | with_reducible refine bl_alloc ?_ _ | with_reducible refine Below.alloc ?_ (by first | omega | (simp; done) | (simp; omega)) _ | with_reducible refine Below.setCell ?_ (by first | omega | (simp; done) | (simp; omega)) _ | with_reducible assumption))⟩
set_option maxHeartbeats 1000000 in
theorem sumT_any (p : Pa) (s : Sc) (ms : List Int) (A K Wa M : Option Addr) (cM gs gm : Nat) (w : World) (hr : RdP w A p.l) (hwd : RdI w .i64 Wa s.wd) (hm : RdI w .i64 M ms) (hs : Bk w gs 31 #[.slice K s.ks.length s.ck, .slice Wa s.wd.length s.cw]) (hmb : Bk w gm 22 #[.slice M ms.length cM]) (hk : mrk p s ms = true) :
    Calls Try.prog 45 #[.agg #[.int .i64 p.c, .int .i64 p.v, .slice A p.l.length p.k], .func (.func 46) #[] #[.pointer (some ⟨gs, 0, none⟩), .pointer (some ⟨gm, 0, none⟩)]] w fun e w' => e = .returned (.int .i64 (tsum p s ms p.l.length)) ∧ Below w.heap.size w w' := by
  have HR := Lib.hid hr
  have HK := Lib.hid hk
  obtain ⟨h1, h2, -⟩ := mrk_ok hk
  have h24 := (sval_ok h1).len
  have H1 := Lib.hid (sval_ok h1).lw
  have H2 := Lib.hid h2
  have hwd' := Lib.hid hwd
  have hm' := Lib.hid hm
  have hs' := Lib.hid hs
  have hmb' := Lib.hid hmb
  clear hr hk h1 h2 hwd hm hs hmb
  have hb0 : Below w.heap.size w (w.alloc (.cells #[.int .i64 p.c, .int .i64 p.v, .slice A p.l.length p.k] 27)) := by (repeat (first | with_reducible exact Below.refl _ _ | with_reducible refine bl_drewN ?_ _ | with_reducible refine Below.drew ?_ | with_reducible refine bl_alloc ?_ _ | with_reducible refine Below.alloc ?_ (by first | omega | (simp; done) | (simp; omega)) _ | with_reducible refine Below.setCell ?_ (by first | omega | (simp; done) | (simp; omega)) _ | with_reducible assumption))
  go_enter Try.func45, Try.ntmps45
  go_wp2_with fail
  go_loopw [5, 11] (fun t i wr => ∃ j : Nat, j ≤ p.l.length ∧ i = .int .i64 j ∧ t = .int .i64 (tsum p s ms j) ∧ Below w.heap.size w wr) (fun _ i _ => p.l.length - (intOf i).toNat)
  case atStart => exact ⟨0, by omega, rfl, rfl, hb0⟩
  case round =>
    clear hb0
    obtain ⟨j, hj, rfl, rfl, hb⟩ := hrel
    have hbd := tsum_bd HK.out j hj
    by_cases hlt : j < p.l.length
    · obtain ⟨b, off, rfl, hbl, a0, a1, a2, a3, a4, a5⟩ := (HR.out.old hb).at j hlt
      have hbd2 := tsum_bd HK.out (j + 1) hlt
      have hts : tsum p s ms (j + 1) = tsum p s ms j + tv (gp p.l j) (gi s.wd j) (gi ms j) := rfl
      obtain ⟨W, hWe⟩ : ∃ W, W = wr.alloc (.cells #[.int .i64 (gp p.l j).k, .int .i64 (gp p.l j).m, .int .i64 (gp p.l j).t, .int .i64 (gp p.l j).o, .int .i64 (gp p.l j).n, .int .i64 (gp p.l j).y] 49) := ⟨_, rfl⟩
      have hbW : Below w.heap.size w W := by rw [hWe]; (repeat (first | with_reducible exact Below.refl _ _ | with_reducible refine bl_drewN ?_ _ | with_reducible refine Below.drew ?_ | with_reducible refine bl_alloc ?_ _ | with_reducible refine Below.alloc ?_ (by first | omega | (simp; done) | (simp; omega)) _ | with_reducible refine Below.setCell ?_ (by first | omega | (simp; done) | (simp; omega)) _ | with_reducible assumption))
      have HC := Lib.hid (cloT_any (gp p.l j) s ms j W K Wa M cM gs gm (hwd'.out.old hbW) (hm'.out.old hbW) (hs'.out.old hbW) (hmb'.out.old hbW) (by have := H1.out; omega) (by have := H2.out; omega) (by have := H1.out; omega) (by have := H2.out; omega))
      subst hWe
      go_wp2_with fail
      refine HC.out.mono ?_
      rintro e w2 ⟨rfl, hb2⟩
      have hb3 := bl_trans hbW hb2
      clear HC hb2 hbW hb a0 a1 a2 a3 a4 a5
      rw [hts] at hbd2
      have Hts := Lib.hid hts
      clear hts
      generalize tv (gp p.l j) (gi s.wd j) (gi ms j) = y at hbd2 Hts ⊢
      generalize tsum p s ms j = x at hbd hbd2 Hts ⊢
      go_wp2_with fail
      go_roundw
      case rel => exact ⟨j + 1, by omega, by go_num, by rw [Hts.out], hb3⟩
      case measure => simp [intOf]; omega
    · have hjn : j = p.l.length := by omega
      subst hjn
      go_wp2_with fail
      go_ret
      exact ⟨rfl, hb⟩
set_option maxHeartbeats 1000000 in
theorem sumM_any (p : Pa) (s : Sc) (A K Wa : Option Addr) (gs : Nat) (w : World) (hr : RdP w A p.l) (hwd : RdI w .i64 Wa s.wd) (hs : Bk w gs 31 #[.slice K s.ks.length s.ck, .slice Wa s.wd.length s.cw]) (hk : SOk p s) :
    Calls Try.prog 45 #[.agg #[.int .i64 p.c, .int .i64 p.v, .slice A p.l.length p.k], .func (.func 47) #[] #[.pointer (some ⟨gs, 0, none⟩)]] w fun e w' => e = .returned (.int .i64 (msum p s p.l.length)) ∧ Below w.heap.size w w' := by
  have HR := Lib.hid hr
  have HK := Lib.hid hk
  have h24 := hk.len
  have H1 := Lib.hid hk.lw
  have hwd' := Lib.hid hwd
  have hs' := Lib.hid hs
  clear hr hk hwd hs
  have hb0 : Below w.heap.size w (w.alloc (.cells #[.int .i64 p.c, .int .i64 p.v, .slice A p.l.length p.k] 27)) := by (repeat (first | with_reducible exact Below.refl _ _ | with_reducible refine bl_drewN ?_ _ | with_reducible refine Below.drew ?_ | with_reducible refine bl_alloc ?_ _ | with_reducible refine Below.alloc ?_ (by first | omega | (simp; done) | (simp; omega)) _ | with_reducible refine Below.setCell ?_ (by first | omega | (simp; done) | (simp; omega)) _ | with_reducible assumption))
  go_enter Try.func45, Try.ntmps45
  go_wp2_with fail
  go_loopw [5, 11] (fun t i wr => ∃ j : Nat, j ≤ p.l.length ∧ i = .int .i64 j ∧ t = .int .i64 (msum p s j) ∧ Below w.heap.size w wr) (fun _ i _ => p.l.length - (intOf i).toNat)
  case atStart => exact ⟨0, by omega, rfl, rfl, hb0⟩
  case round =>
    clear hb0
    obtain ⟨j, hj, rfl, rfl, hb⟩ := hrel
    have hbd := msum_bd HK.out j hj
    by_cases hlt : j < p.l.length
    · obtain ⟨b, off, rfl, hbl, a0, a1, a2, a3, a4, a5⟩ := (HR.out.old hb).at j hlt
      have hbd2 := msum_bd HK.out (j + 1) hlt
      have hts : msum p s (j + 1) = msum p s j + mv (gp p.l j) (gi s.wd j) := rfl
      obtain ⟨W, hWe⟩ : ∃ W, W = wr.alloc (.cells #[.int .i64 (gp p.l j).k, .int .i64 (gp p.l j).m, .int .i64 (gp p.l j).t, .int .i64 (gp p.l j).o, .int .i64 (gp p.l j).n, .int .i64 (gp p.l j).y] 49) := ⟨_, rfl⟩
      have hbW : Below w.heap.size w W := by rw [hWe]; (repeat (first | with_reducible exact Below.refl _ _ | with_reducible refine bl_drewN ?_ _ | with_reducible refine Below.drew ?_ | with_reducible refine bl_alloc ?_ _ | with_reducible refine Below.alloc ?_ (by first | omega | (simp; done) | (simp; omega)) _ | with_reducible refine Below.setCell ?_ (by first | omega | (simp; done) | (simp; omega)) _ | with_reducible assumption))
      have HC := Lib.hid (cloM_any (gp p.l j) s j W K Wa gs (hwd'.out.old hbW) (hs'.out.old hbW) (by have := H1.out; omega) (by have := H1.out; omega))
      subst hWe
      go_wp2_with fail
      refine HC.out.mono ?_
      rintro e w2 ⟨rfl, hb2⟩
      have hb3 := bl_trans hbW hb2
      clear HC hb2 hbW hb a0 a1 a2 a3 a4 a5
      rw [hts] at hbd2
      have Hts := Lib.hid hts
      clear hts
      generalize mv (gp p.l j) (gi s.wd j) = y at hbd2 Hts ⊢
      generalize msum p s j = x at hbd hbd2 Hts ⊢
      go_wp2_with fail
      go_roundw
      case rel => exact ⟨j + 1, by omega, by go_num, by rw [Hts.out], hb3⟩
      case measure => simp [intOf]; omega
    · have hjn : j = p.l.length := by omega
      subst hjn
      go_wp2_with fail
      go_ret
      exact ⟨rfl, hb⟩
/-- The ending is a number and an error. -/
abbrev RetNE (r : Int × Int) (w : World) (e : Ending) (w' : World) : Prop := e = .returned (.tuple #[.int .i64 r.1, .int .i64 r.2]) ∧ Below w.heap.size w w'
theorem mxm_1 {p : Pa} {s : Sc} (h : sval p s = false) : mxm p s = (0, 1) := by unfold mxm; rw [if_neg (by simp [h])]
theorem mxm_0 {p : Pa} {s : Sc} (h : sval p s = true) : mxm p s = (msum p s p.l.length, 0) := by unfold mxm; rw [if_pos h]
theorem hmf (fn : Fn) (first cap : Array Value) (w : World) : (Instr.makeFunc fn first cap).run Try.prog w = .ok (.func fn first cap) w := rfl
attribute [local go_sem] hmf
set_option maxHeartbeats 2000000 in
set_option maxRecDepth 100000 in
theorem maximum_any (p : Pa) (s : Sc)  (w : World) (hp : PaOk w p) (hs : ScOk w s)  :
    Calls Try.prog 23 #[pav p, scv s] w (RetNE (mxm p s) w) := by
  have HV := Lib.hid (show ∀ W, Below w.heap.size w W → Calls Try.prog 35 #[.agg #[.int .i64 p.c, .int .i64 p.v, .slice p.A p.l.length p.k], .agg #[.slice s.K s.ks.length s.ck, .slice s.W s.wd.length s.cw]] W fun e w' => e = .returned (.bool (sval p s)) ∧ Below W.heap.size W w' from fun W hW => valid_any p s W (hp.old hW) (hs.old hW))
  show Calls Try.prog 23 #[.agg #[.int .i64 p.c, .int .i64 p.v, .slice p.A p.l.length p.k], .agg #[.slice s.K s.ks.length s.ck, .slice s.W s.wd.length s.cw]] w _
  have hr0 := hp.rd
  have hk0 := hs.rk
  have hw0 := hs.rw
  generalize p.A = A at hr0 HV ⊢
  generalize s.K = K at hk0 HV ⊢
  generalize s.W = Wa at hw0 HV ⊢
  have HR := Lib.hid hr0
  have HK := Lib.hid hk0
  have HW := Lib.hid hw0
  have hl := hp.len
  have hlk := hs.lk
  have hlw := hs.lw
  have HLE := Lib.hid hs.le
  clear hr0 hk0 hw0 hp hs
  have hb0 : Below w.heap.size w ((w.alloc (.cells #[.int .i64 p.c, .int .i64 p.v, .slice A p.l.length p.k] 27)).alloc (.cells #[.slice K s.ks.length s.ck, .slice Wa s.wd.length s.cw] 31)) := by (repeat (first | with_reducible exact Below.refl _ _ | with_reducible refine bl_drewN ?_ _ | with_reducible refine Below.drew ?_ | with_reducible refine bl_alloc ?_ _ | with_reducible refine Below.alloc ?_ (by first | omega | (simp; done) | (simp; omega)) _ | with_reducible refine Below.setCell ?_ (by first | omega | (simp; done) | (simp; omega)) _ | with_reducible assumption))
  have B1 : Bk ((w.alloc (.cells #[.int .i64 p.c, .int .i64 p.v, .slice A p.l.length p.k] 27)).alloc (.cells #[.slice K s.ks.length s.ck, .slice Wa s.wd.length s.cw] 31)) w.heap.size 27 #[.int .i64 p.c, .int .i64 p.v, .slice A p.l.length p.k] := by (repeat (first | ((with_reducible refine Bk.new' ?_); (first | rfl | (simp; done) | (simp; omega))) | with_reducible refine Bk.alloc ?_ _ | with_reducible refine Bk.drewN ?_ _ | with_reducible refine Bk.drew ?_ | with_reducible assumption))
  have B2 : Bk ((w.alloc (.cells #[.int .i64 p.c, .int .i64 p.v, .slice A p.l.length p.k] 27)).alloc (.cells #[.slice K s.ks.length s.ck, .slice Wa s.wd.length s.cw] 31)) (w.heap.size + 1) 31 #[.slice K s.ks.length s.ck, .slice Wa s.wd.length s.cw] := by (repeat (first | ((with_reducible refine Bk.new' ?_); (first | rfl | (simp; done) | (simp; omega))) | with_reducible refine Bk.alloc ?_ _ | with_reducible refine Bk.drewN ?_ _ | with_reducible refine Bk.drew ?_ | with_reducible assumption))
  go_enter Try.func23, Try.ntmps23
  go_wp2_with fail
  refine (HV.out _ hb0).mono ?_
  rintro e w1 ⟨rfl, hb1⟩
  have hc1 := bl_trans hb0 hb1
  have C1 := B1.old hb1
  have C2 := B2.old hb1
  clear hb0 B1 B2 hb1
  have g1 := C1.lt
  have g2 := C2.lt
  obtain ⟨c0, c1, c2⟩ := bk3' C1
  obtain ⟨⟨d0, d1⟩, -⟩ := bk2 C2
  cases hv : sval p s
  · have Hz := Lib.hid (mxm_1 hv)
    go_wp2_with fail
    go_ret2
    exact ⟨by rw [Hz.out]; rfl, hc1⟩
  have HO := Lib.hid (sval_ok hv)
  have H1 := Lib.hid (sval_ok hv).lk
  have H2 := Lib.hid (sval_ok hv).lw
  have h24 := (sval_ok hv).len
  have Hv := Lib.hid hv
  have Hz := Lib.hid (mxm_0 hv)
  clear hv
  have HS := Lib.hid (sumM_any p s A K Wa (w.heap.size + 1) w1 (HR.out.old hc1) (HW.out.old hc1) C2 HO.out)
  go_wp2_with fail
  refine HS.out.mono ?_
  rintro e w2 ⟨rfl, hb2⟩
  go_wp2_with fail
  go_ret2
  exact ⟨by rw [Hz.out]; rfl, bl_trans hc1 hb2⟩
set_option maxHeartbeats 2000000 in
set_option maxRecDepth 100000 in
theorem total_any (p : Pa) (s : Sc) (ms : List Int) (M : Option Addr) (cM : Nat) (w : World) (hp : PaOk w p) (hs : ScOk w s) (hm : RdI w .i64 M ms) (hml : ms.length ≤ 9223372036854775807) :
    Calls Try.prog 21 #[pav p, scv s, .slice M ms.length cM] w (RetNE (ttl p s ms) w) := by
  have HV := Lib.hid (show ∀ W, Below w.heap.size w W → Calls Try.prog 35 #[.agg #[.int .i64 p.c, .int .i64 p.v, .slice p.A p.l.length p.k], .agg #[.slice s.K s.ks.length s.ck, .slice s.W s.wd.length s.cw]] W fun e w' => e = .returned (.bool (sval p s)) ∧ Below W.heap.size W w' from fun W hW => valid_any p s W (hp.old hW) (hs.old hW))
  have HM := Lib.hid hm
  have HMk := Lib.hid (show ∀ W, Below w.heap.size w W → Calls Try.prog 32 #[.agg #[.int .i64 p.c, .int .i64 p.v, .slice p.A p.l.length p.k], .agg #[.slice s.K s.ks.length s.ck, .slice s.W s.wd.length s.cw], .slice M ms.length cM] W fun e w' => e = .returned (.bool (mrk p s ms)) ∧ Below W.heap.size W w' from fun W hW => marked_any p s ms M cM W (hp.old hW) (hs.old hW) (hm.old hW) hml)
  clear hm
  show Calls Try.prog 21 #[.agg #[.int .i64 p.c, .int .i64 p.v, .slice p.A p.l.length p.k], .agg #[.slice s.K s.ks.length s.ck, .slice s.W s.wd.length s.cw], .slice M ms.length cM] w _
  have hr0 := hp.rd
  have hk0 := hs.rk
  have hw0 := hs.rw
  generalize p.A = A at hr0 HV HMk ⊢
  generalize s.K = K at hk0 HV HMk ⊢
  generalize s.W = Wa at hw0 HV HMk ⊢
  have HR := Lib.hid hr0
  have HK := Lib.hid hk0
  have HW := Lib.hid hw0
  have hl := hp.len
  have hlk := hs.lk
  have hlw := hs.lw
  have HLE := Lib.hid hs.le
  clear hr0 hk0 hw0 hp hs
  have hb0 : Below w.heap.size w (((w.alloc (.cells #[.int .i64 p.c, .int .i64 p.v, .slice A p.l.length p.k] 27)).alloc (.cells #[.slice K s.ks.length s.ck, .slice Wa s.wd.length s.cw] 31)).alloc (.cells #[.slice M ms.length cM] 22)) := by (repeat (first | with_reducible exact Below.refl _ _ | with_reducible refine bl_drewN ?_ _ | with_reducible refine Below.drew ?_ | with_reducible refine bl_alloc ?_ _ | with_reducible refine Below.alloc ?_ (by first | omega | (simp; done) | (simp; omega)) _ | with_reducible refine Below.setCell ?_ (by first | omega | (simp; done) | (simp; omega)) _ | with_reducible assumption))
  have B1 : Bk (((w.alloc (.cells #[.int .i64 p.c, .int .i64 p.v, .slice A p.l.length p.k] 27)).alloc (.cells #[.slice K s.ks.length s.ck, .slice Wa s.wd.length s.cw] 31)).alloc (.cells #[.slice M ms.length cM] 22)) w.heap.size 27 #[.int .i64 p.c, .int .i64 p.v, .slice A p.l.length p.k] := by (repeat (first | ((with_reducible refine Bk.new' ?_); (first | rfl | (simp; done) | (simp; omega))) | with_reducible refine Bk.alloc ?_ _ | with_reducible refine Bk.drewN ?_ _ | with_reducible refine Bk.drew ?_ | with_reducible assumption))
  have B2 : Bk (((w.alloc (.cells #[.int .i64 p.c, .int .i64 p.v, .slice A p.l.length p.k] 27)).alloc (.cells #[.slice K s.ks.length s.ck, .slice Wa s.wd.length s.cw] 31)).alloc (.cells #[.slice M ms.length cM] 22)) (w.heap.size + 1) 31 #[.slice K s.ks.length s.ck, .slice Wa s.wd.length s.cw] := by (repeat (first | ((with_reducible refine Bk.new' ?_); (first | rfl | (simp; done) | (simp; omega))) | with_reducible refine Bk.alloc ?_ _ | with_reducible refine Bk.drewN ?_ _ | with_reducible refine Bk.drew ?_ | with_reducible assumption))
  have B3 : Bk (((w.alloc (.cells #[.int .i64 p.c, .int .i64 p.v, .slice A p.l.length p.k] 27)).alloc (.cells #[.slice K s.ks.length s.ck, .slice Wa s.wd.length s.cw] 31)).alloc (.cells #[.slice M ms.length cM] 22)) (w.heap.size + 2) 22 #[.slice M ms.length cM] := by (repeat (first | ((with_reducible refine Bk.new' ?_); (first | rfl | (simp; done) | (simp; omega))) | with_reducible refine Bk.alloc ?_ _ | with_reducible refine Bk.drewN ?_ _ | with_reducible refine Bk.drew ?_ | with_reducible assumption))
  go_enter Try.func21, Try.ntmps21
  go_wp2_with fail
  refine (HV.out _ hb0).mono ?_
  rintro e w1 ⟨rfl, hb1⟩
  have hc1 := bl_trans hb0 hb1
  have C1 := B1.old hb1
  have C2 := B2.old hb1
  have C3 := B3.old hb1
  clear hb0 B1 B2 hb1 B3
  have g1 := C1.lt
  have g2 := C2.lt
  have g3 := C3.lt
  obtain ⟨c0, c1, c2⟩ := bk3' C1
  obtain ⟨⟨d0, d1⟩, -⟩ := bk2 C2
  have m0 : w1.cell? ⟨w.heap.size + 2, 0, none⟩ = some (.slice M ms.length cM) := C3.cell 0
  cases hv : sval p s
  · have Hz := Lib.hid (ttl_1 (ms := ms) hv)
    go_wp2_with fail
    go_ret2
    exact ⟨by rw [Hz.out]; rfl, hc1⟩
  have HO := Lib.hid (sval_ok hv)
  have H1 := Lib.hid (sval_ok hv).lk
  have H2 := Lib.hid (sval_ok hv).lw
  have h24 := (sval_ok hv).len
  have Hv := Lib.hid hv
  by_cases hq : ¬ ms.length = p.l.length
  · have Hz := Lib.hid (ttl_22 hv hq)
    clear hv
    go_wp2_with fail
    all_goals (first | (exfalso; omega) | (go_ret2; exact ⟨by rw [Hz.out]; rfl, hc1⟩))
  replace hq := Decidable.not_not.1 hq
  have t1 : ((ms.length : Int) != (p.l.length : Int)) = false := by simp [hq]
  have t1' : (ms.length != p.l.length) = false := by simp [hq]
  have H3 := Lib.hid hq
  clear hv hq
  go_wp2_with fail
  refine (HMk.out _ hc1).mono ?_
  rintro e w2 ⟨rfl, hb2⟩
  have D1 := C1.old hb2
  have D2 := C2.old hb2
  have D3 := C3.old hb2
  have hc2 := bl_trans hc1 hb2
  clear C1 C2 C3 hc1 hb2 c0 c1 c2 d0 d1 m0
  obtain ⟨c0, c1, c2⟩ := bk3' D1
  obtain ⟨⟨d0, d1⟩, -⟩ := bk2 D2
  cases hk : mrk p s ms
  · have Hz := Lib.hid (ttl_8 Hv.out H3.out hk)
    go_wp2_with fail
    go_ret2
    exact ⟨by rw [Hz.out]; rfl, hc2⟩
  have Hz := Lib.hid (ttl_0 hk)
  have HS := Lib.hid (sumT_any p s ms A K Wa M cM (w.heap.size + 1) (w.heap.size + 2) w2 (HR.out.old hc2) (HW.out.old hc2) (HM.out.old hc2) D2 D3 hk)
  clear hk
  go_wp2_with fail
  refine HS.out.mono ?_
  rintro e w3 ⟨rfl, hb3⟩
  go_wp2_with fail
  go_ret2
  exact ⟨by rw [Hz.out]; rfl, bl_trans hc2 hb3⟩
end Go.Proofs.Ytokddjohdodkmaa.Tm
