/- Walks: Valid, of the program and of the reference. -/
import Derived.Test.YtokddjohdodkmaaHA
import Derived.Test.YtokddjohdodkmaaRQ
import Derived.WalkKit
import Derived.WalkSpells
import Derived.WalkLawsBesides
import Derived.Deep.QuietTactic
import Derived.BigQuiet
import Derived.Deep.Draws
import Derived.Deep.AppendLies
import Derived.Laws.OwnMore
import Derived.Laws.BytesArg
import Derived.Lib.Hide
import Derived.Deep.LoopGhost
namespace Go.Proofs.Ytokddjohdodkmaa.Tm
open Go.RowKit Go.Proofs.Ytokddjohdodkmaa.Mw
open Go.Proofs.Ytokddjohdodkmaa.Mm (RC)
set_option linter.unusedVariables false
set_option linter.unusedSimpArgs false

theorem k_yes {n : Int} {l : List Int} {k : Nat} (h1 : 0 ≤ gi l k) (h2 : gi l k < n) (h3 : k = 0 ∨ gi l (k - 1) < gi l k) : kAt n l k = true := decide_eq_true ⟨h1, h2, h3⟩
theorem k_no {n : Int} {l : List Int} {k : Nat} (h : ¬ (0 ≤ gi l k ∧ gi l k < n)) : kAt n l k = false := decide_eq_false fun e => h ⟨e.1, e.2.1⟩
theorem k_no3 {n : Int} {l : List Int} {k : Nat} (h3 : ¬ k = 0) (h4 : ¬ gi l (k - 1) < gi l k) : kAt n l k = false := decide_eq_false fun e => by have := e.2.2; omega
theorem isknd (k : Int) (w : World) : Calls Try.prog 48 #[.int .i64 k] w fun e w' => e = .returned (.bool (knd k)) ∧ w = w' := by
  go_enter Try.func48, Try.ntmps48
  go_wp2
  all_goals (go_ret; refine ⟨ret_bool ?_, by first | rfl | (repeat (first | with_reducible exact Below.refl _ _ | with_reducible refine bl_drewN ?_ _ | with_reducible refine Below.drew ?_ | with_reducible refine bl_alloc ?_ _ | with_reducible refine Below.alloc ?_ (by first | omega | (simp; done) | (simp; omega)) _ | with_reducible refine Below.setCell ?_ (by first | omega | (simp; done) | (simp; omega)) _ | with_reducible assumption))⟩; (try simp only [beq_iff_eq, beq_eq_false_iff_ne, bne_iff_ne, bne_eq_false_iff_eq, ne_eq] at *); rw [Bool.eq_iff_iff]; simp only [knd, decide_eq_true_eq, Bool.false_eq_true, true_iff, iff_true, false_iff, iff_false, beq_iff_eq, bne_iff_ne, ne_eq]; omega)
theorem kOk_open {p : Pt} {l : List Int} (hp : vp p = true) (hk : p.k = 1) : kOk p.n l = decide (l.length = 0) := by
  have hv := (vp_iff p).1 hp
  by_cases h0 : l.length = 0
  · rw [decide_eq_true h0]
    exact allI_true fun j hj => absurd hj (by omega)
  · rw [decide_eq_false h0]
    exact allI_false 0 (by omega) (k_no (by omega))
set_option maxHeartbeats 400000 in
theorem vkeys_any (p : Pt) (l : List Int) (A : Option Addr) (c : Nat) (w : World) (hp : vp p = true) (hl : l.length ≤ 1000) (hr : RdI w .i64 A l) :
    Calls Try.prog 52 #[pv p, .slice A l.length c] w fun e w' => e = .returned (.bool (kOk p.n l)) ∧ Below w.heap.size w w' := by
  have HR := Lib.hid (hr.alloc (.cells #[.int .i64 p.k, .int .i64 p.m, .int .i64 p.t, .int .i64 p.o, .int .i64 p.n, .int .i64 p.y] 49))
  clear hr
  have hk := (vp_iff p).1 hp
  by_cases hk1 : p.k = 1
  · have Hk := Lib.hid (kOk_open (l := l) hp hk1)
    have b1 : (p.k == 1) = true := beq_iff_eq.2 hk1
    clear hk hk1
    go_enter Try.func52, Try.ntmps52
    go_wp2_with fail
    go_ret
    exact ⟨ret_bool (by rw [Hk.out, Bool.eq_iff_iff]; simp), by (repeat (first | with_reducible exact Below.refl _ _ | with_reducible refine bl_drewN ?_ _ | with_reducible refine Below.drew ?_ | with_reducible refine bl_alloc ?_ _ | with_reducible refine Below.alloc ?_ (by first | omega | (simp; done) | (simp; omega)) _ | with_reducible refine Below.setCell ?_ (by first | omega | (simp; done) | (simp; omega)) _ | with_reducible assumption))⟩
  · have b1 : (p.k == 1) = false := beq_eq_false_iff_ne.2 hk1
    clear hk hk1 hp
    go_enter Try.func52, Try.ntmps52
    go_wp2_with fail
    go_loop [15] (fun i => ∃ k : Nat, k ≤ l.length ∧ i = .int .i64 k ∧ Hid (∀ j, j < k → kAt p.n l j = true)) (fun i => l.length - (intOf i).toNat)
    case atStart => exact ⟨0, by omega, rfl, fun j hj => absurd hj (by omega)⟩
    case round =>
      obtain ⟨k, hk, rfl, Hok⟩ := hrel
      by_cases hlt : k < l.length
      · obtain ⟨b, off, rfl, hbl, hc⟩ := HR.out k hlt
        by_cases h1 : 0 ≤ gi l k ∧ gi l k < p.n
        · obtain ⟨h1a, h1b⟩ := h1
          by_cases h3 : k = 0
          · have h3' : (k : Int) ≤ 0 := by omega
            have H3 := Lib.hid h3
            clear h3
            go_wp2_with fail
            go_round
            case rel =>
              refine ⟨k + 1, by omega, by go_num, fun j hj => ?_⟩
              by_cases hjk : j = k
              · subst hjk; exact k_yes h1a h1b (.inl H3.out)
              · exact Hok.out j (by omega)
            case measure => simp [intOf]; omega
          · obtain ⟨b', off', e', _, hc'⟩ := HR.out (k - 1) (by omega)
            cases e'
            have h3' : (0 : Int) < k := by omega
            have H3 := Lib.hid h3
            clear h3
            by_cases h4 : gi l (k - 1) < gi l k
            · go_wp2_with fail
              go_round
              case rel =>
                refine ⟨k + 1, by omega, by go_num, fun j hj => ?_⟩
                by_cases hjk : j = k
                · subst hjk; exact k_yes h1a h1b (.inr h4)
                · exact Hok.out j (by omega)
              case measure => simp [intOf]; omega
            · go_wp2_with fail
              go_ret
              exact ⟨ret_bool (allI_false k hlt (k_no3 H3.out (by omega))).symm, by (repeat (first | with_reducible exact Below.refl _ _ | with_reducible refine bl_drewN ?_ _ | with_reducible refine Below.drew ?_ | with_reducible refine bl_alloc ?_ _ | with_reducible refine Below.alloc ?_ (by first | omega | (simp; done) | (simp; omega)) _ | with_reducible refine Below.setCell ?_ (by first | omega | (simp; done) | (simp; omega)) _ | with_reducible assumption))⟩
        · go_wp2_with fail
          all_goals (first | (exfalso; omega) | (go_ret; exact ⟨ret_bool (allI_false k hlt (k_no (by omega))).symm, by (repeat (first | with_reducible exact Below.refl _ _ | with_reducible refine bl_drewN ?_ _ | with_reducible refine Below.drew ?_ | with_reducible refine bl_alloc ?_ _ | with_reducible refine Below.alloc ?_ (by first | omega | (simp; done) | (simp; omega)) _ | with_reducible refine Below.setCell ?_ (by first | omega | (simp; done) | (simp; omega)) _ | with_reducible assumption))⟩))
      · go_wp2_with fail
        go_ret
        exact ⟨ret_bool (allI_true fun j hj => Hok.out j (by omega)).symm, by (repeat (first | with_reducible exact Below.refl _ _ | with_reducible refine bl_drewN ?_ _ | with_reducible refine Below.drew ?_ | with_reducible refine bl_alloc ?_ _ | with_reducible refine Below.alloc ?_ (by first | omega | (simp; done) | (simp; omega)) _ | with_reducible refine Below.setCell ?_ (by first | omega | (simp; done) | (simp; omega)) _ | with_reducible assumption))⟩

theorem bk2 {w : World} {g : Nat} {T : TypeId} {a b : Value} (h : Bk w g T #[a, b]) : (w.cell? ⟨g, 0, none⟩ = some a ∧ w.cell? ⟨g, 1, none⟩ = some b) ∧ w.frozen? ⟨g, 0, none⟩ = false ∧ w.frozen? ⟨g, 1, none⟩ = false := ⟨⟨h.cell 0, h.cell 1⟩, h.frozen 0, h.frozen 1⟩
theorem bk3' {w : World} {g : Nat} {T : TypeId} {a b c : Value} (h : Bk w g T #[a, b, c]) : (w.cell? ⟨g, 0, none⟩ = some a ∧ w.cell? ⟨g, 1, none⟩ = some b ∧ w.cell? ⟨g, 2, none⟩ = some c) := ⟨h.cell 0, h.cell 1, h.cell 2⟩
theorem sv_yes {p : Pa} {s : Sc} {i : Nat} (h1 : kOk (gp p.l i).n (gk s.ks i).l = true) (h2 : knd (gi s.wd i) = true) : svAt p s i = true := by unfold svAt; rw [h1, h2]; rfl
theorem sv_no1 {p : Pa} {s : Sc} {i : Nat} (h1 : kOk (gp p.l i).n (gk s.ks i).l = false) : svAt p s i = false := by unfold svAt; rw [h1]; rfl
theorem sv_no2 {p : Pa} {s : Sc} {i : Nat} (h2 : knd (gi s.wd i) = false) : svAt p s i = false := by unfold svAt; rw [h2]; simp
set_option maxHeartbeats 2000000 in
theorem valid_any (p : Pa) (s : Sc) (w : World) (hp : PaOk w p) (hs : ScOk w s) :
    Calls Try.prog 35 #[pav p, scv s] w fun e w' => e = .returned (.bool (sval p s)) ∧ Below w.heap.size w w' := by
  have HP := Lib.hid hp
  have HS := Lib.hid hs
  have hl := hp.len
  have HV := Lib.hid (show ∀ W, Below w.heap.size w W → Calls Try.prog 51 #[pav p] W fun e w' => e = .returned (.bool (vpp p.c p.v p.l)) ∧ Below W.heap.size W w' from fun W hW => vpaper_any p.c p.v p.A p.l p.k W (by omega) (hp.rd.old hW))
  have hlk := hs.lk
  have hlw := hs.lw
  clear hp hs
  have hb0 : Below w.heap.size w ((w.alloc (.cells (pac p) 27)).alloc (.cells (scc s) 31)) := by (repeat (first | with_reducible exact Below.refl _ _ | with_reducible refine bl_drewN ?_ _ | with_reducible refine Below.drew ?_ | with_reducible refine bl_alloc ?_ _ | with_reducible refine Below.alloc ?_ (by first | omega | (simp; done) | (simp; omega)) _ | with_reducible refine Below.setCell ?_ (by first | omega | (simp; done) | (simp; omega)) _ | with_reducible assumption))
  have B1 : Bk ((w.alloc (.cells (pac p) 27)).alloc (.cells (scc s) 31)) w.heap.size 27 (pac p) := by (repeat (first | ((with_reducible refine Bk.new' ?_); (first | rfl | (simp; done) | (simp; omega))) | with_reducible refine Bk.alloc ?_ _ | with_reducible refine Bk.drewN ?_ _ | with_reducible refine Bk.drew ?_ | with_reducible assumption))
  have B2 : Bk ((w.alloc (.cells (pac p) 27)).alloc (.cells (scc s) 31)) (w.heap.size + 1) 31 (scc s) := by (repeat (first | ((with_reducible refine Bk.new' ?_); (first | rfl | (simp; done) | (simp; omega))) | with_reducible refine Bk.alloc ?_ _ | with_reducible refine Bk.drewN ?_ _ | with_reducible refine Bk.drew ?_ | with_reducible assumption))
  go_enter Try.func35, Try.ntmps35
  go_wp2_with fail
  refine (HV.out _ hb0).mono ?_
  rintro e w1 ⟨rfl, hb1⟩
  have hc1 := bl_trans hb0 hb1
  have C1 := B1.old hb1
  have C2 := B2.old hb1
  clear hb0 B1 B2 hb1 HV
  obtain ⟨c0, c1, c2⟩ := bk3' C1
  obtain ⟨⟨d0, d1⟩, _⟩ := bk2 C2
  cases hv : vpp p.c p.v p.l
  · have Hv := Lib.hid (sval_no1 (s := s) hv)
    go_wp2_with fail
    go_ret
    exact ⟨ret_bool Hv.out.symm, hc1⟩
  by_cases h1 : ¬ s.ks.length = p.l.length
  · have Hv := Lib.hid (sval_no2 h1)
    go_wp2_with fail
    all_goals (first | (exfalso; omega) | (go_ret; exact ⟨ret_bool Hv.out.symm, hc1⟩))
  replace h1 := Decidable.not_not.1 h1
  by_cases h2 : ¬ s.wd.length = p.l.length
  · have Hv := Lib.hid (sval_no3 h2)
    go_wp2_with fail
    all_goals (first | (exfalso; omega) | (go_ret; exact ⟨ret_bool Hv.out.symm, hc1⟩))
  replace h2 := Decidable.not_not.1 h2
  have Hv := Lib.hid hv
  have Hps := Lib.hid (vpp_ok hv).2.1
  clear hv
  go_wp2_with fail
  all_goals (try (exfalso; omega))
  go_loopw [31] (fun i wr => ∃ j : Nat, j ≤ p.l.length ∧ i = .int .i64 j ∧ Hid (∀ m, m < j → svAt p s m = true) ∧ Bk wr w.heap.size 27 (pac p) ∧ Bk wr (w.heap.size + 1) 31 (scc s) ∧ Below w.heap.size w wr) (fun i _ => p.l.length - (intOf i).toNat)
  case atStart => exact ⟨0, by omega, rfl, fun j hj => absurd hj (by omega), C1, C2, hc1⟩
  case round =>
    clear C1 C2 hc1 c0 c1 c2 d0 d1
    obtain ⟨j, hj, rfl, Hok, C1, C2, hb⟩ := hrel
    by_cases hlt : j < p.l.length
    · obtain ⟨b, off, hA, hbl, c0, c1, c2, c3, c4, c5⟩ := (HP.out.rd.old hb).at j hlt
      obtain ⟨kb, koff, hK, hkl, hkc, hkr⟩ := (HS.out.rk.old hb) j (by omega)
      obtain ⟨wb, woff, hW, hwl, hwc⟩ := (HS.out.rw.old hb) j (by omega)
      have hkl2 := HS.out.le j (by omega)
      have hvp := allI_at Hps.out j hlt
      obtain ⟨W, hWe⟩ : ∃ W, W = wr.alloc (.cells #[.int .i64 (gp p.l j).k, .int .i64 (gp p.l j).m, .int .i64 (gp p.l j).t, .int .i64 (gp p.l j).o, .int .i64 (gp p.l j).n, .int .i64 (gp p.l j).y] 49) := ⟨_, rfl⟩
      have hbW : Below wr.heap.size wr W := by rw [hWe]; (repeat (first | with_reducible exact Below.refl _ _ | with_reducible refine bl_drewN ?_ _ | with_reducible refine Below.drew ?_ | with_reducible refine bl_alloc ?_ _ | with_reducible refine Below.alloc ?_ (by first | omega | (simp; done) | (simp; omega)) _ | with_reducible refine Below.setCell ?_ (by first | omega | (simp; done) | (simp; omega)) _ | with_reducible assumption))
      have R1 : RC 52 #[pv (gp p.l j), kv (gk s.ks j)] W (.bool (kOk (gp p.l j).n (gk s.ks j).l)) := RC.of fun V hV => vkeys_any _ _ _ _ V hvp hkl2 (hkr.old (bl_trans hbW hV))
      have R2 : RC 48 #[.int .i64 (gi s.wd j)] W (.bool (knd (gi s.wd j))) := RC.same fun V hV => isknd _ V
      clear hvp hkl2 hkr
      subst hWe
      have d0 : wr.cell? ⟨w.heap.size + 1, 0, none⟩ = some (.slice (some ⟨kb, koff, none⟩) s.ks.length s.ck) := by rw [← hK]; exact C2.cell 0
      have d1 : wr.cell? ⟨w.heap.size + 1, 1, none⟩ = some (.slice (some ⟨wb, woff, none⟩) s.wd.length s.cw) := by rw [← hW]; exact C2.cell 1
      have l1 := C1.lt
      have l2 := C2.lt
      have q0 : (0 : Int) ≤ j := by omega
      have q1 : (j : Int) < p.l.length := by omega
      have q2 : (j : Int) < s.ks.length := by omega
      have q3 : (j : Int) < s.wd.length := by omega
      cases e1 : kOk (gp p.l j).n (gk s.ks j).l
      · have Hv := Lib.hid (sval_no4 j hlt (sv_no1 e1))
        rw [e1] at R1
        go_wp2_with fail
        refine Mm.region_ext (by kernel_rfl) (by kernel_rfl) ?_; (repeat (first | go_big_quiet_step ((exact Mm.RC.call (by with_reducible assumption) _)) | quiet_step ((exact Mm.RC.call (by with_reducible assumption) _)))); refine wpQuiet_nil ?_
        intro w5 hb5
        go_wp2_with fail
        go_ret
        exact ⟨ret_bool Hv.out.symm, bl_trans (bl_trans hb hbW) hb5⟩
      · rw [e1] at R1
        cases e2 : knd (gi s.wd j)
        · have Hv := Lib.hid (sval_no4 j hlt (sv_no2 e2))
          rw [e2] at R2
          go_wp2_with fail
          refine Mm.region_ext (by kernel_rfl) (by kernel_rfl) ?_; (repeat (first | go_big_quiet_step ((exact Mm.RC.call (by with_reducible assumption) _)) | quiet_step ((exact Mm.RC.call (by with_reducible assumption) _)))); refine wpQuiet_nil ?_
          intro w5 hb5
          go_wp2_with fail
          go_ret
          exact ⟨ret_bool Hv.out.symm, bl_trans (bl_trans hb hbW) hb5⟩
        · have Hy := Lib.hid (sv_yes e1 e2)
          rw [e2] at R2
          go_wp2_with fail
          refine Mm.region_ext (by kernel_rfl) (by kernel_rfl) ?_; (repeat (first | go_big_quiet_step ((exact Mm.RC.call (by with_reducible assumption) _)) | quiet_step ((exact Mm.RC.call (by with_reducible assumption) _)))); refine wpQuiet_nil ?_
          intro w5 hb5
          have D1 := (C1.old hbW).old hb5
          have D2 := (C2.old hbW).old hb5
          have hb6 := bl_trans (bl_trans hb hbW) hb5
          clear C1 C2 hbW hb5 hb R1 R2 c0 c1 c2 c3 c4 c5 d0 d1 hkc hwc
          go_wp2_with fail
          go_roundw
          case rel =>
            refine ⟨j + 1, by omega, by go_num, fun m hm => ?_, D1, D2, hb6⟩
            by_cases hjk : m = j
            · subst hjk; exact Hy.out
            · exact Hok.out m (by omega)
          case measure => simp [intOf]; omega
    · have Hz := Lib.hid (show sval p s = true from sval_mk Hv.out h1 h2 fun m hm => Hok.out m (by omega))
      go_wp2_with fail
      go_ret
      exact ⟨ret_bool Hz.out.symm, hb⟩
end Go.Proofs.Ytokddjohdodkmaa.Tm
