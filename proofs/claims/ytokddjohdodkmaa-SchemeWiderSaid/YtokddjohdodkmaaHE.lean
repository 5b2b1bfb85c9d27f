/- Walks: Accepts, of the program and of the reference. -/
import Derived.Test.YtokddjohdodkmaaHC
import Derived.WalkKit
import Derived.WalkSpells
import Derived.WalkLawsBesides
import Derived.Deep.QuietTactic
import Derived.BigQuiet
import Derived.Deep.Draws
import Derived.Deep.AppendLies
import Derived.Laws.OwnMore
import Derived.Laws.BytesArg
import Derived.Lib.Hide
import Derived.Deep.LoopGhost
import Derived.Deep.CutBlock
import Derived.Laws.MakeOwn
import Derived.RegionTactic
namespace Go.Proofs.Ytokddjohdodkmaa.Tm
open Go.RowKit Go.Proofs.Ytokddjohdodkmaa.Mw
open Go.Proofs.Ytokddjohdodkmaa.Mm (RC)
set_option linter.unusedVariables false
set_option linter.unusedSimpArgs false

theorem acc_0 {p : Pt} {l : List Int} {a : Int} (h : l.length = 0) : acc p l a = (a == p.y) := by unfold acc; rw [if_pos h]
theorem acc_1 {p : Pt} {l : List Int} {a : Int} (h : ¬ l.length = 0) : acc p l a = hs l a := by unfold acc; rw [if_neg h]
set_option maxHeartbeats 400000 in
theorem acc_any (p : Pt) (l : List Int) (A : Option Addr) (c : Nat) (a : Int) (w : World) (hl : l.length ≤ 1000) (hr : RdI w .i64 A l) :
    Calls Try.prog 44 #[pv p, .slice A l.length c, .int .i64 a] w fun e w' => e = .returned (.bool (acc p l a)) ∧ Below w.heap.size w w' := by
  have HC := Lib.hid (show ∀ W, Below w.heap.size w W → Calls Try.prog 56 #[.slice A l.length c, .int .i64 a] W fun e w' => e = .returned (.bool (hs l a)) ∧ W = w' from fun W hW => contains_any l A c a W (by omega) (hr.old hW))
  clear hr
  by_cases h0 : l.length = 0
  · have He := Lib.hid (acc_0 (p := p) (a := a) h0)
    go_enter Try.func44, Try.ntmps44
    go_wp2_with fail
    all_goals (first | (exfalso; omega) | (go_ret; exact ⟨ret_bool He.out.symm, by (repeat (first | with_reducible exact Below.refl _ _ | with_reducible refine bl_drewN ?_ _ | with_reducible refine Below.drew ?_ | with_reducible refine bl_alloc ?_ _ | with_reducible refine Below.alloc ?_ (by first | omega | (simp; done) | (simp; omega)) _ | with_reducible refine Below.setCell ?_ (by first | omega | (simp; done) | (simp; omega)) _ | with_reducible assumption))⟩))
  · have He := Lib.hid (acc_1 (p := p) (a := a) h0)
    have t1 : ((l.length : Int) == 0) = false := beq_eq_false_iff_ne.2 (by omega)
    have t2 : (l.length == 0) = false := beq_eq_false_iff_ne.2 h0
    have t3 : ¬ l = [] := fun e => h0 (by rw [e]; rfl)
    go_enter Try.func44, Try.ntmps44
    go_wp2_with fail
    refine (HC.out _ (by (repeat (first | with_reducible exact Below.refl _ _ | with_reducible refine bl_drewN ?_ _ | with_reducible refine Below.drew ?_ | with_reducible refine bl_alloc ?_ _ | with_reducible refine Below.alloc ?_ (by first | omega | (simp; done) | (simp; omega)) _ | with_reducible refine Below.setCell ?_ (by first | omega | (simp; done) | (simp; omega)) _ | with_reducible assumption)))).mono ?_
    rintro e w1 ⟨rfl, rfl⟩
    go_wp2_with fail
    go_ret
    exact ⟨ret_bool He.out.symm, by (repeat (first | with_reducible exact Below.refl _ _ | with_reducible refine bl_drewN ?_ _ | with_reducible refine Below.drew ?_ | with_reducible refine bl_alloc ?_ _ | with_reducible refine Below.alloc ?_ (by first | omega | (simp; done) | (simp; omega)) _ | with_reducible refine Below.setCell ?_ (by first | omega | (simp; done) | (simp; omega)) _ | with_reducible assumption))⟩
theorem accS_v {p : Pa} {s : Sc} {i m : Int} (h : sval p s = false) : accS p s i m = false := by unfold accS; rw [h]; rfl
theorem accS_r {p : Pa} {s : Sc} {i m : Int} (h : ¬ (0 ≤ i ∧ i < p.l.length)) : accS p s i m = false := by unfold accS; simp [h]
theorem accS_k {p : Pa} {s : Sc} {i : Nat} {m : Int} (h : ¬ (gp p.l i).k = 2) : accS p s (i : Int) m = false := by unfold accS; simp [h]
theorem accS_y {p : Pa} {s : Sc} {i : Nat} {m : Int} (h : sval p s = true) (hi : i < p.l.length) (hk : (gp p.l i).k = 2) : accS p s (i : Int) m = acc (gp p.l i) (gk s.ks i).l m := by
  unfold accS; rw [h, decide_eq_true (by omega : 0 ≤ (i : Int) ∧ (i : Int) < p.l.length)]; simp [hk]
set_option maxHeartbeats 2000000 in
set_option maxRecDepth 100000 in
theorem accepts_any (p : Pa) (s : Sc) (i m : Int) (w : World) (hp : PaOk w p) (hs : ScOk w s)  :
    Calls Try.prog 37 #[pav p, scv s, .int .i64 i, .int .i64 m] w fun e w' => e = .returned (.bool (accS p s i m)) ∧ Below w.heap.size w w' := by
  have HV := Lib.hid (show ∀ W, Below w.heap.size w W → Calls Try.prog 35 #[.agg #[.int .i64 p.c, .int .i64 p.v, .slice p.A p.l.length p.k], .agg #[.slice s.K s.ks.length s.ck, .slice s.W s.wd.length s.cw]] W fun e w' => e = .returned (.bool (sval p s)) ∧ Below W.heap.size W w' from fun W hW => valid_any p s W (hp.old hW) (hs.old hW))
  show Calls Try.prog 37 #[.agg #[.int .i64 p.c, .int .i64 p.v, .slice p.A p.l.length p.k], .agg #[.slice s.K s.ks.length s.ck, .slice s.W s.wd.length s.cw], .int .i64 i, .int .i64 m] w _
  have hr0 := hp.rd
  have hk0 := hs.rk
  have hw0 := hs.rw
  generalize p.A = A at hr0 HV ⊢
  generalize s.K = K at hk0 HV ⊢
  generalize s.W = Wa at hw0 HV ⊢
  have HR := Lib.hid hr0
  have HK := Lib.hid hk0
  have HW := Lib.hid hw0
  have hl := hp.len
  have hlk := hs.lk
  have hlw := hs.lw
  have HLE := Lib.hid hs.le
  clear hr0 hk0 hw0 hp hs
  have hb0 : Below w.heap.size w ((w.alloc (.cells #[.int .i64 p.c, .int .i64 p.v, .slice A p.l.length p.k] 27)).alloc (.cells #[.slice K s.ks.length s.ck, .slice Wa s.wd.length s.cw] 31)) := by (repeat (first | with_reducible exact Below.refl _ _ | with_reducible refine bl_drewN ?_ _ | with_reducible refine Below.drew ?_ | with_reducible refine bl_alloc ?_ _ | with_reducible refine Below.alloc ?_ (by first | omega | (simp; done) | (simp; omega)) _ | with_reducible refine Below.setCell ?_ (by first | omega | (simp; done) | (simp; omega)) _ | with_reducible assumption))
  have B1 : Bk ((w.alloc (.cells #[.int .i64 p.c, .int .i64 p.v, .slice A p.l.length p.k] 27)).alloc (.cells #[.slice K s.ks.length s.ck, .slice Wa s.wd.length s.cw] 31)) w.heap.size 27 #[.int .i64 p.c, .int .i64 p.v, .slice A p.l.length p.k] := by (repeat (first | ((with_reducible refine Bk.new' ?_); (first | rfl | (simp; done) | (simp; omega))) | with_reducible refine Bk.alloc ?_ _ | with_reducible refine Bk.drewN ?_ _ | with_reducible refine Bk.drew ?_ | with_reducible assumption))
  have B2 : Bk ((w.alloc (.cells #[.int .i64 p.c, .int .i64 p.v, .slice A p.l.length p.k] 27)).alloc (.cells #[.slice K s.ks.length s.ck, .slice Wa s.wd.length s.cw] 31)) (w.heap.size + 1) 31 #[.slice K s.ks.length s.ck, .slice Wa s.wd.length s.cw] := by (repeat (first | ((with_reducible refine Bk.new' ?_); (first | rfl | (simp; done) | (simp; omega))) | with_reducible refine Bk.alloc ?_ _ | with_reducible refine Bk.drewN ?_ _ | with_reducible refine Bk.drew ?_ | with_reducible assumption))
  go_enter Try.func37, Try.ntmps37
  go_wp2_with fail
  refine (HV.out _ hb0).mono ?_
  rintro e w1 ⟨rfl, hb1⟩
  have hc1 := bl_trans hb0 hb1
  have C1 := B1.old hb1
  have C2 := B2.old hb1
  clear hb0 B1 B2 hb1
  have g1 := C1.lt
  have g2 := C2.lt
  obtain ⟨c0, c1, c2⟩ := bk3' C1
  obtain ⟨⟨d0, d1⟩, -⟩ := bk2 C2
  cases hv : sval p s
  · have Hz := Lib.hid (accS_v (i := i) (m := m) hv)
    go_wp2_with fail
    go_ret
    exact ⟨ret_bool Hz.out.symm, hc1⟩
  have HO := Lib.hid (sval_ok hv)
  have H1 := Lib.hid (sval_ok hv).lk
  have H2 := Lib.hid (sval_ok hv).lw
  have h24 := (sval_ok hv).len
  have Hv := Lib.hid hv
  by_cases hi : ¬ (0 ≤ i ∧ i < p.l.length)
  · have Hz := Lib.hid (accS_r (s := s) (m := m) hi)
    clear hv
    go_wp2_with fail
    all_goals (first | (exfalso; omega) | (go_ret; exact ⟨ret_bool (by rw [Hz.out]), hc1⟩))
  replace hi := Decidable.not_not.1 hi
  obtain ⟨hi0, hi1⟩ := hi
  obtain ⟨j, rfl⟩ := Int.eq_ofNat_of_zero_le hi0
  have hj : j < p.l.length := by omega
  obtain ⟨b, off, rfl, hbl, a0, a1, a2, a3, a4, a5⟩ := (HR.out.old hc1).at j hj
  obtain ⟨kb, koff, rfl, hkl, hkc, hkr⟩ := (HK.out.old hc1) j (by have := H1.out; omega)
  have HKR := Lib.hid hkr
  have hkl2 := HLE.out j (by have := H1.out; omega)
  have q2 : (j : Int) < s.ks.length := by have := H1.out; omega
  have t3 : decide ((j : Int) < 0) = false := decide_eq_false (by omega)
  have t4 : decide ((p.l.length : Int) ≤ (j : Int)) = false := decide_eq_false (by omega)
  have t4' : decide (p.l.length ≤ j) = false := decide_eq_false (by omega)
  clear hkr
  by_cases hk : ¬ (gp p.l j).k = 2
  · have Hz := Lib.hid (accS_k (p := p) (s := s) (i := j) (m := m) hk)
    have b1 : ((gp p.l j).k != 2) = true := bne_iff_ne.2 hk
    clear hv
    go_wp2_with fail
    all_goals (first | (exfalso; omega) | (go_ret; exact ⟨ret_bool (by rw [Hz.out]), hc1⟩))
  replace hk := Decidable.not_not.1 hk
  have b1 : ((gp p.l j).k != 2) = false := by simp [hk]
  have Hz := Lib.hid (accS_y (m := m) hv hj hk)
  clear hv hk
  have R1 : RC 44 #[pv (gp p.l j), kv (gk s.ks j), .int .i64 m] w1 (.bool (acc (gp p.l j) (gk s.ks j).l m)) := RC.of fun V hV => acc_any _ _ _ _ _ V hkl2 (HKR.out.old hV)
  go_wp2_with fail
  refine Mm.region_ext (by kernel_rfl) (by kernel_rfl) ?_; (repeat (first | go_big_quiet_step ((exact Mm.RC.call (by with_reducible assumption) _)) | quiet_step ((exact Mm.RC.call (by with_reducible assumption) _)))); refine wpQuiet_nil ?_
  intro w5 hb5
  go_wp2_with fail
  go_ret
  exact ⟨ret_bool Hz.out.symm, bl_trans hc1 hb5⟩
set_option maxHeartbeats 2000000 in
set_option maxRecDepth 100000 in
theorem raccepts_any (p : Pa) (s : Sc) (i m : Int) (w : World) (hp : PaOk w p) (hs : ScOk w s)  :
    Calls Try.prog 38 #[pav p, scv s, .int .i64 i, .int .i64 m] w fun e w' => e = .returned (.bool (accS p s i m)) ∧ Below w.heap.size w w' := by
  have HV := Lib.hid (show ∀ W, Below w.heap.size w W → Calls Try.prog 36 #[.agg #[.int .i64 p.c, .int .i64 p.v, .slice p.A p.l.length p.k], .agg #[.slice s.K s.ks.length s.ck, .slice s.W s.wd.length s.cw]] W fun e w' => e = .returned (.bool (sval p s)) ∧ Below W.heap.size W w' from fun W hW => rvalid_any p s W (hp.old hW) (hs.old hW))
  show Calls Try.prog 38 #[.agg #[.int .i64 p.c, .int .i64 p.v, .slice p.A p.l.length p.k], .agg #[.slice s.K s.ks.length s.ck, .slice s.W s.wd.length s.cw], .int .i64 i, .int .i64 m] w _
  have hr0 := hp.rd
  have hk0 := hs.rk
  have hw0 := hs.rw
  generalize p.A = A at hr0 HV ⊢
  generalize s.K = K at hk0 HV ⊢
  generalize s.W = Wa at hw0 HV ⊢
  have HR := Lib.hid hr0
  have HK := Lib.hid hk0
  have HW := Lib.hid hw0
  have hl := hp.len
  have hlk := hs.lk
  have hlw := hs.lw
  have HLE := Lib.hid hs.le
  clear hr0 hk0 hw0 hp hs
  have hb0 : Below w.heap.size w ((w.alloc (.cells #[.int .i64 p.c, .int .i64 p.v, .slice A p.l.length p.k] 27)).alloc (.cells #[.slice K s.ks.length s.ck, .slice Wa s.wd.length s.cw] 31)) := by (repeat (first | with_reducible exact Below.refl _ _ | with_reducible refine bl_drewN ?_ _ | with_reducible refine Below.drew ?_ | with_reducible refine bl_alloc ?_ _ | with_reducible refine Below.alloc ?_ (by first | omega | (simp; done) | (simp; omega)) _ | with_reducible refine Below.setCell ?_ (by first | omega | (simp; done) | (simp; omega)) _ | with_reducible assumption))
  have B1 : Bk ((w.alloc (.cells #[.int .i64 p.c, .int .i64 p.v, .slice A p.l.length p.k] 27)).alloc (.cells #[.slice K s.ks.length s.ck, .slice Wa s.wd.length s.cw] 31)) w.heap.size 27 #[.int .i64 p.c, .int .i64 p.v, .slice A p.l.length p.k] := by (repeat (first | ((with_reducible refine Bk.new' ?_); (first | rfl | (simp; done) | (simp; omega))) | with_reducible refine Bk.alloc ?_ _ | with_reducible refine Bk.drewN ?_ _ | with_reducible refine Bk.drew ?_ | with_reducible assumption))
  have B2 : Bk ((w.alloc (.cells #[.int .i64 p.c, .int .i64 p.v, .slice A p.l.length p.k] 27)).alloc (.cells #[.slice K s.ks.length s.ck, .slice Wa s.wd.length s.cw] 31)) (w.heap.size + 1) 31 #[.slice K s.ks.length s.ck, .slice Wa s.wd.length s.cw] := by (repeat (first | ((with_reducible refine Bk.new' ?_); (first | rfl | (simp; done) | (simp; omega))) | with_reducible refine Bk.alloc ?_ _ | with_reducible refine Bk.drewN ?_ _ | with_reducible refine Bk.drew ?_ | with_reducible assumption))
  go_enter Try.func38, Try.ntmps38
  go_wp2_with fail
  refine (HV.out _ hb0).mono ?_
  rintro e w1 ⟨rfl, hb1⟩
  have hc1 := bl_trans hb0 hb1
  have C1 := B1.old hb1
  have C2 := B2.old hb1
  clear hb0 B1 B2 hb1
  have g1 := C1.lt
  have g2 := C2.lt
  obtain ⟨c0, c1, c2⟩ := bk3' C1
  obtain ⟨⟨d0, d1⟩, -⟩ := bk2 C2
  cases hv : sval p s
  · have Hz := Lib.hid (accS_v (i := i) (m := m) hv)
    go_wp2_with fail
    go_ret
    exact ⟨ret_bool Hz.out.symm, hc1⟩
  have HO := Lib.hid (sval_ok hv)
  have H1 := Lib.hid (sval_ok hv).lk
  have H2 := Lib.hid (sval_ok hv).lw
  have h24 := (sval_ok hv).len
  have Hv := Lib.hid hv
  by_cases hi : ¬ (0 ≤ i ∧ i < p.l.length)
  · have Hz := Lib.hid (accS_r (s := s) (m := m) hi)
    clear hv
    go_wp2_with fail
    all_goals (first | (exfalso; omega) | (go_ret; exact ⟨ret_bool (by rw [Hz.out]), hc1⟩))
  replace hi := Decidable.not_not.1 hi
  obtain ⟨hi0, hi1⟩ := hi
  obtain ⟨j, rfl⟩ := Int.eq_ofNat_of_zero_le hi0
  have hj : j < p.l.length := by omega
  obtain ⟨b, off, rfl, hbl, a0, a1, a2, a3, a4, a5⟩ := (HR.out.old hc1).at j hj
  obtain ⟨kb, koff, rfl, hkl, hkc, hkr⟩ := (HK.out.old hc1) j (by have := H1.out; omega)
  have HKR := Lib.hid hkr
  have hkl2 := HLE.out j (by have := H1.out; omega)
  have q2 : (j : Int) < s.ks.length := by have := H1.out; omega
  have t3 : decide ((j : Int) < 0) = false := decide_eq_false (by omega)
  have t4 : decide ((p.l.length : Int) ≤ (j : Int)) = false := decide_eq_false (by omega)
  have t4' : decide (p.l.length ≤ j) = false := decide_eq_false (by omega)
  clear hkr
  by_cases hk : ¬ (gp p.l j).k = 2
  · have Hz := Lib.hid (accS_k (p := p) (s := s) (i := j) (m := m) hk)
    have b1 : ((gp p.l j).k != 2) = true := bne_iff_ne.2 hk
    clear hv
    go_wp2_with fail
    all_goals (first | (exfalso; omega) | (go_ret; exact ⟨ret_bool (by rw [Hz.out]), hc1⟩))
  replace hk := Decidable.not_not.1 hk
  have b1 : ((gp p.l j).k != 2) = false := by simp [hk]
  have Hz := Lib.hid (accS_y (m := m) hv hj hk)
  clear hv hk
  have HC := Lib.hid (has_any (gk s.ks j).l (gk s.ks j).A (gk s.ks j).c m w1 (by omega) HKR.out)
  by_cases h0 : (gk s.ks j).l.length = 0
  · have He := Lib.hid (Hz.out.trans (acc_0 h0))
    have t1 : (((gk s.ks j).l.length : Int) == 0) = true := beq_iff_eq.2 (by omega)
    clear Hz
    go_wp2_with fail
    all_goals (first | (exfalso; omega) | (go_ret; exact ⟨ret_bool He.out.symm, hc1⟩))
  · have He := Lib.hid (Hz.out.trans (acc_1 h0))
    have t1 : (((gk s.ks j).l.length : Int) == 0) = false := beq_eq_false_iff_ne.2 (by omega)
    have t2 : ((gk s.ks j).l.length == 0) = false := beq_eq_false_iff_ne.2 h0
    have t6 : ¬ (gk s.ks j).l = [] := fun e => h0 (by rw [e]; rfl)
    clear Hz
    go_wp2_with fail
    refine HC.out.mono ?_
    rintro e w2 ⟨rfl, rfl⟩
    go_wp2_with fail
    go_ret
    exact ⟨ret_bool He.out.symm, hc1⟩
end Go.Proofs.Ytokddjohdodkmaa.Tm
