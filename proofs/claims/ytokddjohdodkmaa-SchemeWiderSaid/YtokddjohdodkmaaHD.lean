/- Walks: Permitted and Marked, of the program and of the reference. -/
import Derived.Test.YtokddjohdodkmaaHC
import Derived.WalkKit
import Derived.WalkSpells
import Derived.WalkLawsBesides
import Derived.Deep.QuietTactic
import Derived.BigQuiet
import Derived.Deep.Draws
import Derived.Deep.AppendLies
import Derived.Laws.OwnMore
import Derived.Laws.BytesArg
import Derived.Lib.Hide
import Derived.Deep.LoopGhost
import Derived.Deep.CutBlock
import Derived.Laws.MakeOwn
import Derived.RegionTactic
namespace Go.Proofs.Ytokddjohdodkmaa.Tm
open Go.RowKit Go.Proofs.Ytokddjohdodkmaa.Mw
open Go.Proofs.Ytokddjohdodkmaa.Mm (RC)
set_option linter.unusedVariables false
set_option linter.unusedSimpArgs false

theorem perm_2 {p : Pt} {m : Int} (h : p.k = 2) : perm p m = decide (m = -1 ∨ m = 0 ∨ m = p.m) := by unfold perm; rw [if_pos h]
theorem perm_1 {p : Pt} {m : Int} (h : ¬ p.k = 2) : perm p m = decide (-1 ≤ m ∧ m ≤ p.m) := by unfold perm; rw [if_neg h]
set_option maxHeartbeats 400000 in
theorem perm_any (p : Pt) (m : Int) (w : World) (hp : vp p = true) : Calls Try.prog 50 #[pv p, .int .i64 m] w fun e w' => e = .returned (.bool (perm p m)) ∧ Below w.heap.size w w' := by
  have hm := (vp_iff p).1 hp
  have hm1 := hm.1
  clear hm hp
  by_cases hk : p.k = 2
  · have He := Lib.hid (perm_2 (m := m) hk)
    have b1 : (p.k == 2) = true := beq_iff_eq.2 hk
    go_enter Try.func50, Try.ntmps50
    go_wp2_with fail
    all_goals (go_ret; refine ⟨ret_bool ?_, by (repeat (first | with_reducible exact Below.refl _ _ | with_reducible refine bl_drewN ?_ _ | with_reducible refine Below.drew ?_ | with_reducible refine bl_alloc ?_ _ | with_reducible refine Below.alloc ?_ (by first | omega | (simp; done) | (simp; omega)) _ | with_reducible refine Below.setCell ?_ (by first | omega | (simp; done) | (simp; omega)) _ | with_reducible assumption))⟩; rw [He.out]; (try simp only [beq_iff_eq, beq_eq_false_iff_ne, bne_iff_ne, bne_eq_false_iff_eq, ne_eq] at *); rw [Bool.eq_iff_iff]; simp only [decide_eq_true_eq, Bool.false_eq_true, true_iff, iff_true, false_iff, iff_false, beq_iff_eq, bne_iff_ne, ne_eq, Bool.or_eq_true, Bool.and_eq_true]; omega)
  · have He := Lib.hid (perm_1 (m := m) hk)
    have b1 : (p.k == 2) = false := beq_eq_false_iff_ne.2 hk
    go_enter Try.func50, Try.ntmps50
    go_wp2_with fail
    all_goals (go_ret; refine ⟨ret_bool ?_, by (repeat (first | with_reducible exact Below.refl _ _ | with_reducible refine bl_drewN ?_ _ | with_reducible refine Below.drew ?_ | with_reducible refine bl_alloc ?_ _ | with_reducible refine Below.alloc ?_ (by first | omega | (simp; done) | (simp; omega)) _ | with_reducible refine Below.setCell ?_ (by first | omega | (simp; done) | (simp; omega)) _ | with_reducible assumption))⟩; rw [He.out]; (try simp only [beq_iff_eq, beq_eq_false_iff_ne, bne_iff_ne, bne_eq_false_iff_eq, ne_eq] at *); rw [Bool.eq_iff_iff]; simp only [decide_eq_true_eq, Bool.false_eq_true, true_iff, iff_true, false_iff, iff_false, beq_iff_eq, bne_iff_ne, ne_eq, Bool.or_eq_true, Bool.and_eq_true]; omega)
theorem permS_v {p : Pa} {s : Sc} {i m : Int} (h : sval p s = false) : permS p s i m = false := by unfold permS; rw [h]; rfl
theorem permS_r {p : Pa} {s : Sc} {i m : Int} (h : ¬ (0 ≤ i ∧ i < p.l.length)) : permS p s i m = false := by unfold permS; simp [h]
theorem permS_y {p : Pa} {s : Sc} {i : Nat} {m : Int} (h : sval p s = true) (hi : i < p.l.length) : permS p s (i : Int) m = perm (gp p.l i) m := by
  unfold permS; rw [h, decide_eq_true (by omega : 0 ≤ (i : Int) ∧ (i : Int) < p.l.length)]; simp
set_option maxHeartbeats 2000000 in
set_option maxRecDepth 100000 in
theorem permitted_any (p : Pa) (s : Sc) (i m : Int) (w : World) (hp : PaOk w p) (hs : ScOk w s)  :
    Calls Try.prog 30 #[pav p, scv s, .int .i64 i, .int .i64 m] w fun e w' => e = .returned (.bool (permS p s i m)) ∧ Below w.heap.size w w' := by
  have HV := Lib.hid (show ∀ W, Below w.heap.size w W → Calls Try.prog 35 #[.agg #[.int .i64 p.c, .int .i64 p.v, .slice p.A p.l.length p.k], .agg #[.slice s.K s.ks.length s.ck, .slice s.W s.wd.length s.cw]] W fun e w' => e = .returned (.bool (sval p s)) ∧ Below W.heap.size W w' from fun W hW => valid_any p s W (hp.old hW) (hs.old hW))
  show Calls Try.prog 30 #[.agg #[.int .i64 p.c, .int .i64 p.v, .slice p.A p.l.length p.k], .agg #[.slice s.K s.ks.length s.ck, .slice s.W s.wd.length s.cw], .int .i64 i, .int .i64 m] w _
  have hr0 := hp.rd
  have hk0 := hs.rk
  have hw0 := hs.rw
  generalize p.A = A at hr0 HV ⊢
  generalize s.K = K at hk0 HV ⊢
  generalize s.W = Wa at hw0 HV ⊢
  have HR := Lib.hid hr0
  have HK := Lib.hid hk0
  have HW := Lib.hid hw0
  have hl := hp.len
  have hlk := hs.lk
  have hlw := hs.lw
  have HLE := Lib.hid hs.le
  clear hr0 hk0 hw0 hp hs
  have hb0 : Below w.heap.size w ((w.alloc (.cells #[.int .i64 p.c, .int .i64 p.v, .slice A p.l.length p.k] 27)).alloc (.cells #[.slice K s.ks.length s.ck, .slice Wa s.wd.length s.cw] 31)) := by (repeat (first | with_reducible exact Below.refl _ _ | with_reducible refine bl_drewN ?_ _ | with_reducible refine Below.drew ?_ | with_reducible refine bl_alloc ?_ _ | with_reducible refine Below.alloc ?_ (by first | omega | (simp; done) | (simp; omega)) _ | with_reducible refine Below.setCell ?_ (by first | omega | (simp; done) | (simp; omega)) _ | with_reducible assumption))
  have B1 : Bk ((w.alloc (.cells #[.int .i64 p.c, .int .i64 p.v, .slice A p.l.length p.k] 27)).alloc (.cells #[.slice K s.ks.length s.ck, .slice Wa s.wd.length s.cw] 31)) w.heap.size 27 #[.int .i64 p.c, .int .i64 p.v, .slice A p.l.length p.k] := by (repeat (first | ((with_reducible refine Bk.new' ?_); (first | rfl | (simp; done) | (simp; omega))) | with_reducible refine Bk.alloc ?_ _ | with_reducible refine Bk.drewN ?_ _ | with_reducible refine Bk.drew ?_ | with_reducible assumption))
  have B2 : Bk ((w.alloc (.cells #[.int .i64 p.c, .int .i64 p.v, .slice A p.l.length p.k] 27)).alloc (.cells #[.slice K s.ks.length s.ck, .slice Wa s.wd.length s.cw] 31)) (w.heap.size + 1) 31 #[.slice K s.ks.length s.ck, .slice Wa s.wd.length s.cw] := by (repeat (first | ((with_reducible refine Bk.new' ?_); (first | rfl | (simp; done) | (simp; omega))) | with_reducible refine Bk.alloc ?_ _ | with_reducible refine Bk.drewN ?_ _ | with_reducible refine Bk.drew ?_ | with_reducible assumption))
  go_enter Try.func30, Try.ntmps30
  go_wp2_with fail
  refine (HV.out _ hb0).mono ?_
  rintro e w1 ⟨rfl, hb1⟩
  have hc1 := bl_trans hb0 hb1
  have C1 := B1.old hb1
  have C2 := B2.old hb1
  clear hb0 B1 B2 hb1
  have g1 := C1.lt
  have g2 := C2.lt
  obtain ⟨c0, c1, c2⟩ := bk3' C1
  obtain ⟨⟨d0, d1⟩, -⟩ := bk2 C2
  cases hv : sval p s
  · have Hz := Lib.hid (permS_v (i := i) (m := m) hv)
    go_wp2_with fail
    go_ret
    exact ⟨ret_bool Hz.out.symm, hc1⟩
  have HO := Lib.hid (sval_ok hv)
  have H1 := Lib.hid (sval_ok hv).lk
  have H2 := Lib.hid (sval_ok hv).lw
  have h24 := (sval_ok hv).len
  have Hv := Lib.hid hv
  by_cases hi : 0 ≤ i ∧ i < p.l.length
  · obtain ⟨hi0, hi1⟩ := hi
    obtain ⟨j, rfl⟩ := Int.eq_ofNat_of_zero_le hi0
    have hj : j < p.l.length := by omega
    have Hz := Lib.hid (permS_y (m := m) hv hj)
    have HP := Lib.hid (HO.out.part j hj)
    obtain ⟨b, off, rfl, hbl, a0, a1, a2, a3, a4, a5⟩ := (HR.out.old hc1).at j hj
    clear hv
    go_wp2_with fail
    refine (perm_any (gp p.l j) m _ HP.out).mono ?_
    rintro e w2 ⟨rfl, hb2⟩
    go_wp2_with fail
    go_ret
    exact ⟨ret_bool Hz.out.symm, bl_trans hc1 hb2⟩
  · have Hz := Lib.hid (permS_r (s := s) (m := m) hi)
    clear hv
    go_wp2_with fail
    all_goals (first | (exfalso; omega) | (go_ret; exact ⟨ret_bool (by rw [Hz.out]), hc1⟩) | (go_ret; refine ⟨ret_bool ?_, hc1⟩; rw [Hz.out]; first | rfl | exact decide_eq_false (by omega) | (simp; omega)))
set_option maxHeartbeats 2000000 in
set_option maxRecDepth 100000 in
theorem rpermitted_any (p : Pa) (s : Sc) (i m : Int) (w : World) (hp : PaOk w p) (hs : ScOk w s)  :
    Calls Try.prog 31 #[pav p, scv s, .int .i64 i, .int .i64 m] w fun e w' => e = .returned (.bool (permS p s i m)) ∧ Below w.heap.size w w' := by
  have HV := Lib.hid (show ∀ W, Below w.heap.size w W → Calls Try.prog 36 #[.agg #[.int .i64 p.c, .int .i64 p.v, .slice p.A p.l.length p.k], .agg #[.slice s.K s.ks.length s.ck, .slice s.W s.wd.length s.cw]] W fun e w' => e = .returned (.bool (sval p s)) ∧ Below W.heap.size W w' from fun W hW => rvalid_any p s W (hp.old hW) (hs.old hW))
  show Calls Try.prog 31 #[.agg #[.int .i64 p.c, .int .i64 p.v, .slice p.A p.l.length p.k], .agg #[.slice s.K s.ks.length s.ck, .slice s.W s.wd.length s.cw], .int .i64 i, .int .i64 m] w _
  have hr0 := hp.rd
  have hk0 := hs.rk
  have hw0 := hs.rw
  generalize p.A = A at hr0 HV ⊢
  generalize s.K = K at hk0 HV ⊢
  generalize s.W = Wa at hw0 HV ⊢
  have HR := Lib.hid hr0
  have HK := Lib.hid hk0
  have HW := Lib.hid hw0
  have hl := hp.len
  have hlk := hs.lk
  have hlw := hs.lw
  have HLE := Lib.hid hs.le
  clear hr0 hk0 hw0 hp hs
  have hb0 : Below w.heap.size w ((w.alloc (.cells #[.int .i64 p.c, .int .i64 p.v, .slice A p.l.length p.k] 27)).alloc (.cells #[.slice K s.ks.length s.ck, .slice Wa s.wd.length s.cw] 31)) := by (repeat (first | with_reducible exact Below.refl _ _ | with_reducible refine bl_drewN ?_ _ | with_reducible refine Below.drew ?_ | with_reducible refine bl_alloc ?_ _ | with_reducible refine Below.alloc ?_ (by first | omega | (simp; done) | (simp; omega)) _ | with_reducible refine Below.setCell ?_ (by first | omega | (simp; done) | (simp; omega)) _ | with_reducible assumption))
  have B1 : Bk ((w.alloc (.cells #[.int .i64 p.c, .int .i64 p.v, .slice A p.l.length p.k] 27)).alloc (.cells #[.slice K s.ks.length s.ck, .slice Wa s.wd.length s.cw] 31)) w.heap.size 27 #[.int .i64 p.c, .int .i64 p.v, .slice A p.l.length p.k] := by (repeat (first | ((with_reducible refine Bk.new' ?_); (first | rfl | (simp; done) | (simp; omega))) | with_reducible refine Bk.alloc ?_ _ | with_reducible refine Bk.drewN ?_ _ | with_reducible refine Bk.drew ?_ | with_reducible assumption))
  have B2 : Bk ((w.alloc (.cells #[.int .i64 p.c, .int .i64 p.v, .slice A p.l.length p.k] 27)).alloc (.cells #[.slice K s.ks.length s.ck, .slice Wa s.wd.length s.cw] 31)) (w.heap.size + 1) 31 #[.slice K s.ks.length s.ck, .slice Wa s.wd.length s.cw] := by (repeat (first | ((with_reducible refine Bk.new' ?_); (first | rfl | (simp; done) | (simp; omega))) | with_reducible refine Bk.alloc ?_ _ | with_reducible refine Bk.drewN ?_ _ | with_reducible refine Bk.drew ?_ | with_reducible assumption))
  go_enter Try.func31, Try.ntmps31
  go_wp2_with fail
  refine (HV.out _ hb0).mono ?_
  rintro e w1 ⟨rfl, hb1⟩
  have hc1 := bl_trans hb0 hb1
  have C1 := B1.old hb1
  have C2 := B2.old hb1
  clear hb0 B1 B2 hb1
  have g1 := C1.lt
  have g2 := C2.lt
  obtain ⟨c0, c1, c2⟩ := bk3' C1
  obtain ⟨⟨d0, d1⟩, -⟩ := bk2 C2
  cases hv : sval p s
  · have Hz := Lib.hid (permS_v (i := i) (m := m) hv)
    go_wp2_with fail
    go_ret
    exact ⟨ret_bool Hz.out.symm, hc1⟩
  have HO := Lib.hid (sval_ok hv)
  have H1 := Lib.hid (sval_ok hv).lk
  have H2 := Lib.hid (sval_ok hv).lw
  have h24 := (sval_ok hv).len
  have Hv := Lib.hid hv
  by_cases hi : 0 ≤ i ∧ i < p.l.length
  · obtain ⟨hi0, hi1⟩ := hi
    obtain ⟨j, rfl⟩ := Int.eq_ofNat_of_zero_le hi0
    have hj : j < p.l.length := by omega
    have Hz := Lib.hid (permS_y (m := m) hv hj)
    obtain ⟨b, off, rfl, hbl, a0, a1, a2, a3, a4, a5⟩ := (HR.out.old hc1).at j hj
    clear hv
    by_cases hk : (gp p.l j).k = 2
    · have He := Lib.hid (Hz.out.trans (perm_2 (m := m) hk))
      have b1 : ((gp p.l j).k == 2) = true := beq_iff_eq.2 hk
      clear Hz
      go_wp2_with fail
      all_goals (first | (exfalso; omega) | (go_ret; refine ⟨ret_bool ?_, hc1⟩; rw [He.out]; (try simp only [beq_iff_eq, beq_eq_false_iff_ne, bne_iff_ne, bne_eq_false_iff_eq, ne_eq] at *); rw [Bool.eq_iff_iff]; simp only [decide_eq_true_eq, Bool.false_eq_true, true_iff, iff_true, false_iff, iff_false, beq_iff_eq, bne_iff_ne, ne_eq, Bool.or_eq_true, Bool.and_eq_true]; omega))
    · have He := Lib.hid (Hz.out.trans (perm_1 (m := m) hk))
      have b1 : ((gp p.l j).k == 2) = false := beq_eq_false_iff_ne.2 hk
      clear Hz
      go_wp2_with fail
      all_goals (first | (exfalso; omega) | (go_ret; refine ⟨ret_bool ?_, hc1⟩; rw [He.out]; (try simp only [beq_iff_eq, beq_eq_false_iff_ne, bne_iff_ne, bne_eq_false_iff_eq, ne_eq] at *); rw [Bool.eq_iff_iff]; simp only [decide_eq_true_eq, Bool.false_eq_true, true_iff, iff_true, false_iff, iff_false, beq_iff_eq, bne_iff_ne, ne_eq, Bool.or_eq_true, Bool.and_eq_true]; omega))
  · have Hz := Lib.hid (permS_r (s := s) (m := m) hi)
    clear hv
    go_wp2_with fail
    all_goals (first | (exfalso; omega) | (go_ret; exact ⟨ret_bool (by rw [Hz.out]), hc1⟩))
theorem mr_yes1 {p : Pa} {s : Sc} {ms : List Int} {i : Nat} (h : ¬ gi s.wd i = 0) : mrAt p s ms i = true := by unfold mrAt; simp [h]
theorem mr_yes2 {p : Pa} {s : Sc} {ms : List Int} {i : Nat} (h : perm (gp p.l i) (gi ms i) = true) : mrAt p s ms i = true := by unfold mrAt; simp [h]
theorem mr_no {p : Pa} {s : Sc} {ms : List Int} {i : Nat} (h : gi s.wd i = 0) (h2 : perm (gp p.l i) (gi ms i) = false) : mrAt p s ms i = false := by unfold mrAt; simp [h, h2]
set_option maxHeartbeats 2000000 in
set_option maxRecDepth 100000 in
theorem marked_any (p : Pa) (s : Sc) (ms : List Int) (M : Option Addr) (cM : Nat) (w : World) (hp : PaOk w p) (hs : ScOk w s) (hm : RdI w .i64 M ms) (hml : ms.length ≤ 9223372036854775807) :
    Calls Try.prog 32 #[pav p, scv s, .slice M ms.length cM] w fun e w' => e = .returned (.bool (mrk p s ms)) ∧ Below w.heap.size w w' := by
  have HV := Lib.hid (show ∀ W, Below w.heap.size w W → Calls Try.prog 35 #[.agg #[.int .i64 p.c, .int .i64 p.v, .slice p.A p.l.length p.k], .agg #[.slice s.K s.ks.length s.ck, .slice s.W s.wd.length s.cw]] W fun e w' => e = .returned (.bool (sval p s)) ∧ Below W.heap.size W w' from fun W hW => valid_any p s W (hp.old hW) (hs.old hW))
  have HM := Lib.hid hm
  clear hm
  show Calls Try.prog 32 #[.agg #[.int .i64 p.c, .int .i64 p.v, .slice p.A p.l.length p.k], .agg #[.slice s.K s.ks.length s.ck, .slice s.W s.wd.length s.cw], .slice M ms.length cM] w _
  have hr0 := hp.rd
  have hk0 := hs.rk
  have hw0 := hs.rw
  generalize p.A = A at hr0 HV ⊢
  generalize s.K = K at hk0 HV ⊢
  generalize s.W = Wa at hw0 HV ⊢
  have HR := Lib.hid hr0
  have HK := Lib.hid hk0
  have HW := Lib.hid hw0
  have hl := hp.len
  have hlk := hs.lk
  have hlw := hs.lw
  have HLE := Lib.hid hs.le
  clear hr0 hk0 hw0 hp hs
  have hb0 : Below w.heap.size w ((w.alloc (.cells #[.int .i64 p.c, .int .i64 p.v, .slice A p.l.length p.k] 27)).alloc (.cells #[.slice K s.ks.length s.ck, .slice Wa s.wd.length s.cw] 31)) := by (repeat (first | with_reducible exact Below.refl _ _ | with_reducible refine bl_drewN ?_ _ | with_reducible refine Below.drew ?_ | with_reducible refine bl_alloc ?_ _ | with_reducible refine Below.alloc ?_ (by first | omega | (simp; done) | (simp; omega)) _ | with_reducible refine Below.setCell ?_ (by first | omega | (simp; done) | (simp; omega)) _ | with_reducible assumption))
  have B1 : Bk ((w.alloc (.cells #[.int .i64 p.c, .int .i64 p.v, .slice A p.l.length p.k] 27)).alloc (.cells #[.slice K s.ks.length s.ck, .slice Wa s.wd.length s.cw] 31)) w.heap.size 27 #[.int .i64 p.c, .int .i64 p.v, .slice A p.l.length p.k] := by (repeat (first | ((with_reducible refine Bk.new' ?_); (first | rfl | (simp; done) | (simp; omega))) | with_reducible refine Bk.alloc ?_ _ | with_reducible refine Bk.drewN ?_ _ | with_reducible refine Bk.drew ?_ | with_reducible assumption))
  have B2 : Bk ((w.alloc (.cells #[.int .i64 p.c, .int .i64 p.v, .slice A p.l.length p.k] 27)).alloc (.cells #[.slice K s.ks.length s.ck, .slice Wa s.wd.length s.cw] 31)) (w.heap.size + 1) 31 #[.slice K s.ks.length s.ck, .slice Wa s.wd.length s.cw] := by (repeat (first | ((with_reducible refine Bk.new' ?_); (first | rfl | (simp; done) | (simp; omega))) | with_reducible refine Bk.alloc ?_ _ | with_reducible refine Bk.drewN ?_ _ | with_reducible refine Bk.drew ?_ | with_reducible assumption))
  go_enter Try.func32, Try.ntmps32
  go_wp2_with fail
  refine (HV.out _ hb0).mono ?_
  rintro e w1 ⟨rfl, hb1⟩
  have hc1 := bl_trans hb0 hb1
  have C1 := B1.old hb1
  have C2 := B2.old hb1
  clear hb0 B1 B2 hb1
  have g1 := C1.lt
  have g2 := C2.lt
  obtain ⟨c0, c1, c2⟩ := bk3' C1
  obtain ⟨⟨d0, d1⟩, -⟩ := bk2 C2
  cases hv : sval p s
  · have Hz := Lib.hid (mrk_no1 (ms := ms) hv)
    go_wp2_with fail
    go_ret
    exact ⟨ret_bool Hz.out.symm, hc1⟩
  have HO := Lib.hid (sval_ok hv)
  have H1 := Lib.hid (sval_ok hv).lk
  have H2 := Lib.hid (sval_ok hv).lw
  have h24 := (sval_ok hv).len
  have Hv := Lib.hid hv
  by_cases hq : ¬ ms.length = p.l.length
  · have Hz := Lib.hid (mrk_no2 (s := s) hq)
    clear hv
    go_wp2_with fail
    all_goals (first | (exfalso; omega) | (go_ret; exact ⟨ret_bool Hz.out.symm, hc1⟩))
  replace hq := Decidable.not_not.1 hq
  have t1 : ((ms.length : Int) != (p.l.length : Int)) = false := by simp [hq]
  have t1' : (ms.length != p.l.length) = false := by simp [hq]
  have H3 := Lib.hid hq
  clear hv hq
  go_wp2_with fail
  go_loopw [24] (fun i wr => ∃ j : Nat, j ≤ p.l.length ∧ i = .int .i64 j ∧ Hid (∀ m, m < j → mrAt p s ms m = true) ∧ Bk wr w.heap.size 27 #[.int .i64 p.c, .int .i64 p.v, .slice A p.l.length p.k] ∧ Bk wr (w.heap.size + 1) 31 #[.slice K s.ks.length s.ck, .slice Wa s.wd.length s.cw] ∧ Below w.heap.size w wr) (fun i _ => p.l.length - (intOf i).toNat)
  case atStart => exact ⟨0, by omega, rfl, fun j hj => absurd hj (by omega), C1, C2, hc1⟩
  case round =>
    clear C1 C2 hc1 c0 c1 c2 d0 d1
    obtain ⟨j, hj, rfl, Hok, C1, C2, hb⟩ := hrel
    by_cases hlt : j < p.l.length
    · obtain ⟨b, off, rfl, hbl, a0, a1, a2, a3, a4, a5⟩ := (HR.out.old hb).at j hlt
      obtain ⟨wb, woff, rfl, hwl, hwc⟩ := (HW.out.old hb) j (by have := H2.out; omega)
      obtain ⟨mb, moff, rfl, hml2, hmc⟩ := (HM.out.old hb) j (by have := H3.out; omega)
      have q0 : (0 : Int) ≤ j := by omega
      have q1 : (j : Int) < p.l.length := by omega
      have q2 : (j : Int) < ms.length := by have := H3.out; omega
      have q3 : (j : Int) < s.wd.length := by have := H2.out; omega
      have g1 := C1.lt
      have g2 := C2.lt
      obtain ⟨c0, c1, c2⟩ := bk3' C1
      obtain ⟨⟨d0, d1⟩, -⟩ := bk2 C2
      have HP := HO.out.part j hlt
      obtain ⟨W, hWe⟩ : ∃ W, W = wr.alloc (.cells #[.int .i64 (gp p.l j).k, .int .i64 (gp p.l j).m, .int .i64 (gp p.l j).t, .int .i64 (gp p.l j).o, .int .i64 (gp p.l j).n, .int .i64 (gp p.l j).y] 49) := ⟨_, rfl⟩
      have hbW : Below wr.heap.size wr W := by rw [hWe]; (repeat (first | with_reducible exact Below.refl _ _ | with_reducible refine bl_drewN ?_ _ | with_reducible refine Below.drew ?_ | with_reducible refine bl_alloc ?_ _ | with_reducible refine Below.alloc ?_ (by first | omega | (simp; done) | (simp; omega)) _ | with_reducible refine Below.setCell ?_ (by first | omega | (simp; done) | (simp; omega)) _ | with_reducible assumption))
      have R1 : RC 50 #[pv (gp p.l j), .int .i64 (gi ms j)] W (.bool (perm (gp p.l j) (gi ms j))) := RC.of fun V hV => perm_any _ _ V HP
      subst hWe
      clear HP
      by_cases e1 : gi s.wd j = 0
      · have z1 : (gi s.wd j == 0) = true := beq_iff_eq.2 e1
        cases e2 : perm (gp p.l j) (gi ms j)
        · have Hz := Lib.hid (mrk_no3 j hlt (mr_no e1 e2))
          rw [e2] at R1
          clear e1
          go_wp2_with fail
          refine Mm.region_ext (by kernel_rfl) (by kernel_rfl) ?_; (repeat (first | go_big_quiet_step ((exact Mm.RC.call (by with_reducible assumption) _)) | quiet_step ((exact Mm.RC.call (by with_reducible assumption) _)))); refine wpQuiet_nil ?_
          intro w5 hb5
          go_wp2_with fail
          go_ret
          exact ⟨ret_bool Hz.out.symm, bl_trans (bl_trans hb hbW) hb5⟩
        · have Hy := Lib.hid (mr_yes2 (s := s) e2)
          rw [e2] at R1
          clear e1
          go_wp2_with fail
          refine Mm.region_ext (by kernel_rfl) (by kernel_rfl) ?_; (repeat (first | go_big_quiet_step ((exact Mm.RC.call (by with_reducible assumption) _)) | quiet_step ((exact Mm.RC.call (by with_reducible assumption) _)))); refine wpQuiet_nil ?_
          intro w5 hb5
          have D1 := (C1.old hbW).old hb5
          have D2 := (C2.old hbW).old hb5
          have hb6 := bl_trans (bl_trans hb hbW) hb5
          clear C1 C2 hbW hb5 hb R1 c0 c1 c2 d0 d1 a0 a1 a2 a3 a4 a5 hwc hmc
          go_wp2_with fail
          go_roundw
          case rel =>
            refine ⟨j + 1, by omega, by go_num, fun m hm => ?_, D1, D2, hb6⟩
            by_cases hjk : m = j
            · subst hjk; exact Hy.out
            · exact Hok.out m (by omega)
          case measure => simp [intOf]; omega
      · have z1 : (gi s.wd j == 0) = false := beq_eq_false_iff_ne.2 e1
        have Hy := Lib.hid (mr_yes1 (p := p) (ms := ms) e1)
        clear e1
        go_wp2_with fail
        refine Mm.region_ext (by kernel_rfl) (by kernel_rfl) ?_; (repeat (first | go_big_quiet_step ((exact Mm.RC.call (by with_reducible assumption) _)) | quiet_step ((exact Mm.RC.call (by with_reducible assumption) _)))); refine wpQuiet_nil ?_
        intro w5 hb5
        have D1 := (C1.old hbW).old hb5
        have D2 := (C2.old hbW).old hb5
        have hb6 := bl_trans (bl_trans hb hbW) hb5
        clear C1 C2 hbW hb5 hb R1 c0 c1 c2 d0 d1 a0 a1 a2 a3 a4 a5 hwc hmc
        go_wp2_with fail
        go_roundw
        case rel =>
          refine ⟨j + 1, by omega, by go_num, fun m hm => ?_, D1, D2, hb6⟩
          by_cases hjk : m = j
          · subst hjk; exact Hy.out
          · exact Hok.out m (by omega)
        case measure => simp [intOf]; omega
    · have Hz := Lib.hid (show mrk p s ms = true from mrk_yes Hv.out H3.out fun m hm => Hok.out m (by omega))
      have z9 : decide ((j : Int) < (ms.length : Int)) = false := decide_eq_false (by have := H3.out; omega)
      have z9' : decide (j < ms.length) = false := decide_eq_false (by have := H3.out; omega)
      go_wp2_with fail
      go_ret
      exact ⟨ret_bool Hz.out.symm, hb⟩
set_option maxHeartbeats 2000000 in
set_option maxRecDepth 100000 in
theorem rmarked_any (p : Pa) (s : Sc) (ms : List Int) (M : Option Addr) (cM : Nat) (w : World) (hp : PaOk w p) (hs : ScOk w s) (hm : RdI w .i64 M ms) (hml : ms.length ≤ 9223372036854775807) :
    Calls Try.prog 33 #[pav p, scv s, .slice M ms.length cM] w fun e w' => e = .returned (.bool (mrk p s ms)) ∧ Below w.heap.size w w' := by
  have HV := Lib.hid (show ∀ W, Below w.heap.size w W → Calls Try.prog 36 #[.agg #[.int .i64 p.c, .int .i64 p.v, .slice p.A p.l.length p.k], .agg #[.slice s.K s.ks.length s.ck, .slice s.W s.wd.length s.cw]] W fun e w' => e = .returned (.bool (sval p s)) ∧ Below W.heap.size W w' from fun W hW => rvalid_any p s W (hp.old hW) (hs.old hW))
  have HM := Lib.hid hm
  clear hm
  have HPm := Lib.hid (show ∀ (i : Nat) (m : Int) W, Below w.heap.size w W → RC 31 #[.agg #[.int .i64 p.c, .int .i64 p.v, .slice p.A p.l.length p.k], .agg #[.slice s.K s.ks.length s.ck, .slice s.W s.wd.length s.cw], .int .i64 (i : Int), .int .i64 m] W (.bool (permS p s (i : Int) m)) from fun i m W hW => RC.of fun V hV => rpermitted_any p s i m V (hp.old (bl_trans hW hV)) (hs.old (bl_trans hW hV)))
  show Calls Try.prog 33 #[.agg #[.int .i64 p.c, .int .i64 p.v, .slice p.A p.l.length p.k], .agg #[.slice s.K s.ks.length s.ck, .slice s.W s.wd.length s.cw], .slice M ms.length cM] w _
  have hr0 := hp.rd
  have hk0 := hs.rk
  have hw0 := hs.rw
  generalize p.A = A at hr0 HV HPm ⊢
  generalize s.K = K at hk0 HV HPm ⊢
  generalize s.W = Wa at hw0 HV HPm ⊢
  have HR := Lib.hid hr0
  have HK := Lib.hid hk0
  have HW := Lib.hid hw0
  have hl := hp.len
  have hlk := hs.lk
  have hlw := hs.lw
  have HLE := Lib.hid hs.le
  clear hr0 hk0 hw0 hp hs
  have hb0 : Below w.heap.size w ((w.alloc (.cells #[.int .i64 p.c, .int .i64 p.v, .slice A p.l.length p.k] 27)).alloc (.cells #[.slice K s.ks.length s.ck, .slice Wa s.wd.length s.cw] 31)) := by (repeat (first | with_reducible exact Below.refl _ _ | with_reducible refine bl_drewN ?_ _ | with_reducible refine Below.drew ?_ | with_reducible refine bl_alloc ?_ _ | with_reducible refine Below.alloc ?_ (by first | omega | (simp; done) | (simp; omega)) _ | with_reducible refine Below.setCell ?_ (by first | omega | (simp; done) | (simp; omega)) _ | with_reducible assumption))
  have B1 : Bk ((w.alloc (.cells #[.int .i64 p.c, .int .i64 p.v, .slice A p.l.length p.k] 27)).alloc (.cells #[.slice K s.ks.length s.ck, .slice Wa s.wd.length s.cw] 31)) w.heap.size 27 #[.int .i64 p.c, .int .i64 p.v, .slice A p.l.length p.k] := by (repeat (first | ((with_reducible refine Bk.new' ?_); (first | rfl | (simp; done) | (simp; omega))) | with_reducible refine Bk.alloc ?_ _ | with_reducible refine Bk.drewN ?_ _ | with_reducible refine Bk.drew ?_ | with_reducible assumption))
  have B2 : Bk ((w.alloc (.cells #[.int .i64 p.c, .int .i64 p.v, .slice A p.l.length p.k] 27)).alloc (.cells #[.slice K s.ks.length s.ck, .slice Wa s.wd.length s.cw] 31)) (w.heap.size + 1) 31 #[.slice K s.ks.length s.ck, .slice Wa s.wd.length s.cw] := by (repeat (first | ((with_reducible refine Bk.new' ?_); (first | rfl | (simp; done) | (simp; omega))) | with_reducible refine Bk.alloc ?_ _ | with_reducible refine Bk.drewN ?_ _ | with_reducible refine Bk.drew ?_ | with_reducible assumption))
  go_enter Try.func33, Try.ntmps33
  go_wp2_with fail
  refine (HV.out _ hb0).mono ?_
  rintro e w1 ⟨rfl, hb1⟩
  have hc1 := bl_trans hb0 hb1
  have C1 := B1.old hb1
  have C2 := B2.old hb1
  clear hb0 B1 B2 hb1
  have g1 := C1.lt
  have g2 := C2.lt
  obtain ⟨c0, c1, c2⟩ := bk3' C1
  obtain ⟨⟨d0, d1⟩, -⟩ := bk2 C2
  cases hv : sval p s
  · have Hz := Lib.hid (mrk_no1 (ms := ms) hv)
    go_wp2_with fail
    go_ret
    exact ⟨ret_bool Hz.out.symm, hc1⟩
  have HO := Lib.hid (sval_ok hv)
  have H1 := Lib.hid (sval_ok hv).lk
  have H2 := Lib.hid (sval_ok hv).lw
  have h24 := (sval_ok hv).len
  have Hv := Lib.hid hv
  by_cases hq : ¬ ms.length = p.l.length
  · have Hz := Lib.hid (mrk_no2 (s := s) hq)
    clear hv
    go_wp2_with fail
    all_goals (first | (exfalso; omega) | (go_ret; exact ⟨ret_bool Hz.out.symm, hc1⟩))
  replace hq := Decidable.not_not.1 hq
  have t1 : ((ms.length : Int) != (p.l.length : Int)) = false := by simp [hq]
  have t1' : (ms.length != p.l.length) = false := by simp [hq]
  have H3 := Lib.hid hq
  clear hv hq
  go_wp2_with fail
  go_loopw [7] (fun i wr => ∃ j : Nat, j ≤ p.l.length ∧ i = .int .i64 j ∧ Hid (∀ m, m < j → mrAt p s ms m = true) ∧ Bk wr w.heap.size 27 #[.int .i64 p.c, .int .i64 p.v, .slice A p.l.length p.k] ∧ Bk wr (w.heap.size + 1) 31 #[.slice K s.ks.length s.ck, .slice Wa s.wd.length s.cw] ∧ Below w.heap.size w wr) (fun i _ => p.l.length - (intOf i).toNat)
  case atStart => exact ⟨0, by omega, rfl, fun j hj => absurd hj (by omega), C1, C2, hc1⟩
  case round =>
    clear C1 C2 hc1 c0 c1 c2 d0 d1
    obtain ⟨j, hj, rfl, Hok, C1, C2, hb⟩ := hrel
    by_cases hlt : j < p.l.length
    · obtain ⟨b, off, rfl, hbl, a0, a1, a2, a3, a4, a5⟩ := (HR.out.old hb).at j hlt
      obtain ⟨wb, woff, rfl, hwl, hwc⟩ := (HW.out.old hb) j (by have := H2.out; omega)
      obtain ⟨mb, moff, rfl, hml2, hmc⟩ := (HM.out.old hb) j (by have := H3.out; omega)
      have q0 : (0 : Int) ≤ j := by omega
      have q1 : (j : Int) < p.l.length := by omega
      have q2 : (j : Int) < ms.length := by have := H3.out; omega
      have q3 : (j : Int) < s.wd.length := by have := H2.out; omega
      have g1 := C1.lt
      have g2 := C2.lt
      obtain ⟨c0, c1, c2⟩ := bk3' C1
      obtain ⟨⟨d0, d1⟩, -⟩ := bk2 C2
      have R1 := HPm.out j (gi ms j) wr hb
      rw [permS_y Hv.out hlt] at R1
      have hbW : Below wr.heap.size wr wr := Below.refl _ _
      by_cases e1 : gi s.wd j = 0
      · have z1 : (gi s.wd j == 0) = true := beq_iff_eq.2 e1
        cases e2 : perm (gp p.l j) (gi ms j)
        · have Hz := Lib.hid (mrk_no3 j hlt (mr_no e1 e2))
          rw [e2] at R1
          clear e1
          go_wp2_with fail
          refine Mm.region_ext (by kernel_rfl) (by kernel_rfl) ?_; (repeat (first | go_big_quiet_step ((exact Mm.RC.call (by with_reducible assumption) _)) | quiet_step ((exact Mm.RC.call (by with_reducible assumption) _)))); refine wpQuiet_nil ?_
          intro w5 hb5
          go_wp2_with fail
          go_ret
          exact ⟨ret_bool Hz.out.symm, bl_trans (bl_trans hb hbW) hb5⟩
        · have Hy := Lib.hid (mr_yes2 (s := s) e2)
          rw [e2] at R1
          clear e1
          go_wp2_with fail
          refine Mm.region_ext (by kernel_rfl) (by kernel_rfl) ?_; (repeat (first | go_big_quiet_step ((exact Mm.RC.call (by with_reducible assumption) _)) | quiet_step ((exact Mm.RC.call (by with_reducible assumption) _)))); refine wpQuiet_nil ?_
          intro w5 hb5
          have D1 := (C1.old hbW).old hb5
          have D2 := (C2.old hbW).old hb5
          have hb6 := bl_trans (bl_trans hb hbW) hb5
          clear C1 C2 hbW hb5 hb R1 c0 c1 c2 d0 d1 a0 a1 a2 a3 a4 a5 hwc hmc
          go_wp2_with fail
          go_roundw
          case rel =>
            refine ⟨j + 1, by omega, by go_num, fun m hm => ?_, D1, D2, hb6⟩
            by_cases hjk : m = j
            · subst hjk; exact Hy.out
            · exact Hok.out m (by omega)
          case measure => simp [intOf]; omega
      · have z1 : (gi s.wd j == 0) = false := beq_eq_false_iff_ne.2 e1
        have Hy := Lib.hid (mr_yes1 (p := p) (ms := ms) e1)
        clear e1
        go_wp2_with fail
        refine Mm.region_ext (by kernel_rfl) (by kernel_rfl) ?_; (repeat (first | go_big_quiet_step ((exact Mm.RC.call (by with_reducible assumption) _)) | quiet_step ((exact Mm.RC.call (by with_reducible assumption) _)))); refine wpQuiet_nil ?_
        intro w5 hb5
        have D1 := (C1.old hbW).old hb5
        have D2 := (C2.old hbW).old hb5
        have hb6 := bl_trans (bl_trans hb hbW) hb5
        clear C1 C2 hbW hb5 hb R1 c0 c1 c2 d0 d1 a0 a1 a2 a3 a4 a5 hwc hmc
        go_wp2_with fail
        go_roundw
        case rel =>
          refine ⟨j + 1, by omega, by go_num, fun m hm => ?_, D1, D2, hb6⟩
          by_cases hjk : m = j
          · subst hjk; exact Hy.out
          · exact Hok.out m (by omega)
        case measure => simp [intOf]; omega
    · have Hz := Lib.hid (show mrk p s ms = true from mrk_yes Hv.out H3.out fun m hm => Hok.out m (by omega))
      have z9 : decide ((j : Int) < (ms.length : Int)) = false := decide_eq_false (by have := H3.out; omega)
      have z9' : decide (j < ms.length) = false := decide_eq_false (by have := H3.out; omega)
      go_wp2_with fail
      go_ret
      exact ⟨ret_bool Hz.out.symm, hb⟩
end Go.Proofs.Ytokddjohdodkmaa.Tm
