/- Walks: Check and Total of items, of the reference. -/
import Derived.Test.YthjaomnmgggjbaaTE
import Derived.WalkKit
import Derived.WalkSpells
import Derived.WalkLawsBesides
import Derived.Deep.QuietTactic
import Derived.BigQuiet
import Derived.Deep.Draws
import Derived.Deep.AppendLies
import Derived.Laws.OwnMore
import Derived.Laws.BytesArg
import Derived.Lib.Hide
import Derived.Deep.LoopGhost
import Derived.IntWalk
namespace Go.Proofs.Ythjaomnmgggjbaa.Tm
open Go.RowKit Go.Proofs.Ythjaomnmgggjbaa.Mw
set_option linter.unusedVariables false

theorem isn_yes {n : Int} (h : isn n = true) : decide (n < 0) = false ∧ decide (9999 < n) = false := by
  have := decide_eq_true_iff.1 h
  constructor <;> (simp; omega)

set_option maxHeartbeats 2000000 in
set_option maxRecDepth 100000 in
theorem rcheck_ok (x : It) (A : Option Addr) (c : Nat) (E : Option Addr) (d : Nat) (w : World) (hx : ItOk w x A E) (h1 : isn x.id = true) (h2 : 1 ≤ x.ver) (h3 : x.ver ≤ 8) (h4 : x.stem.size ≤ 40) (h5 : x.ps.length ≤ 6) (h6 : x.en.length ≤ 8) (h7 : x.stem.size ≠ 0) :
    Calls Try.prog 20 #[iv x A c E d] w fun e w' => e = .returned (.int .i64 (chk x)) ∧ Below w.heap.size w w' := by
  obtain ⟨hP, hE, hs, hpl, hel⟩ := hx
  have HP := Lib.hid hP
  have HE := Lib.hid hE
  have H1 := Lib.hid (And.intro h1 (And.intro h2 h3))
  have H2 := Lib.hid (And.intro h4 (And.intro h5 h6))
  obtain ⟨i1, i2⟩ := isn_yes h1
  obtain ⟨h7a, h7b⟩ := stem_ne x.stem h7
  have H7 := Lib.hid h7
  have b1 : decide (x.ver < 1) = false := by simp; omega
  have b2 : decide (8 < x.ver) = false := by simp; omega
  have b3 : decide (40 < (x.stem.size : Int)) = false := by simp; omega
  have b4 : decide (6 < (x.ps.length : Int)) = false := by simp; omega
  have b5 : decide (8 < (x.en.length : Int)) = false := by simp; omega
  clear hP hE h1 h7
  go_enter Try.func20, Try.ntmps20
  go_wp2_with fail
  go_loop [3] (fun i => ∃ k : Nat, k ≤ x.stem.size ∧ i = .int .i64 k ∧ ∀ j, j < k → bok (byt x.stem j) = true) (fun i => x.stem.size - (intOf i).toNat)
  case atStart => exact ⟨0, by omega, rfl, fun j hj => by omega⟩
  case round =>
    obtain ⟨k, hk, rfl, hok⟩ := hrel
    have Hok := Lib.hid hok
    clear hok
    by_cases hlt : k < x.stem.size
    · have Hby := Lib.hid (byt_at x.stem k hlt)
      by_cases q1 : 32 ≤ (x.stem[k].toNat : Int)
      · by_cases q2 : (x.stem[k].toNat : Int) ≤ 126
        · go_wp2_with fail
          go_round
          case rel =>
            refine ⟨k + 1, by omega, by go_num, fun j hj => ?_⟩
            by_cases hjk : j = k
            · subst hjk; rw [Hby.out]; exact decide_eq_true ⟨q1, q2⟩
            · exact Hok.out j (by omega)
          case measure => simp [intOf]; omega
        · go_wp2_with fail
          go_ret
          exact ⟨ret_int (chk_7 H1.out H2.out (fun h => by have := allI_at h.2 k hlt; rw [Hby.out] at this; have := decide_eq_true_iff.1 this; omega)).symm, by (repeat (first | with_reducible exact Below.refl _ _ | with_reducible refine bl_drewN ?_ _ | with_reducible refine Below.drew ?_ | with_reducible refine bl_alloc ?_ _ | with_reducible refine Below.alloc ?_ (by first | omega | (simp; done) | (simp; omega)) _ | with_reducible refine Below.setCell ?_ (by first | omega | (simp; done) | (simp; omega)) _ | with_reducible assumption))⟩
      · go_wp2_with fail
        go_ret
        exact ⟨ret_int (chk_7 H1.out H2.out (fun h => by have := allI_at h.2 k hlt; rw [Hby.out] at this; have := decide_eq_true_iff.1 this; omega)).symm, by (repeat (first | with_reducible exact Below.refl _ _ | with_reducible refine bl_drewN ?_ _ | with_reducible refine Below.drew ?_ | with_reducible refine bl_alloc ?_ _ | with_reducible refine Below.alloc ?_ (by first | omega | (simp; done) | (simp; omega)) _ | with_reducible refine Below.setCell ?_ (by first | omega | (simp; done) | (simp; omega)) _ | with_reducible assumption))⟩
    · have H3 : Hid (x.stem.size ≠ 0 ∧ prt x.stem = true) := ⟨H7.out, allI_true fun j hj => Hok.out j (by omega)⟩
      by_cases h9 : x.ps.length = 0
      · have H4 := Lib.hid (chk_10 H1.out H2.out H3.out h9)
        go_wp2_with fail
        go_ret
        exact ⟨ret_int H4.out.symm, by (repeat (first | with_reducible exact Below.refl _ _ | with_reducible refine bl_drewN ?_ _ | with_reducible refine Below.drew ?_ | with_reducible refine bl_alloc ?_ _ | with_reducible refine Below.alloc ?_ (by first | omega | (simp; done) | (simp; omega)) _ | with_reducible refine Below.setCell ?_ (by first | omega | (simp; done) | (simp; omega)) _ | with_reducible assumption))⟩
      · have h9' : ((x.ps.length : Int) == 0) = false := by rw [beq_eq_false_iff_ne]; omega
        have H9 := Lib.hid h9
        clear h9
        go_wp2_with fail
        go_loopw [4] (fun i wr => ∃ k : Nat, k ≤ x.ps.length ∧ i = .int .i64 k ∧ (∀ j, j < k → vp (gp x.ps j) = true) ∧ Bk wr w.heap.size 33 (itc x A c E d) ∧ Below w.heap.size w wr) (fun i _ => x.ps.length - (intOf i).toNat)
        case atStart => exact ⟨0, by omega, rfl, fun j hj => by omega, Bk.new _ _ _, by (repeat (first | with_reducible exact Below.refl _ _ | with_reducible refine bl_drewN ?_ _ | with_reducible refine Below.drew ?_ | with_reducible refine bl_alloc ?_ _ | with_reducible refine Below.alloc ?_ (by first | omega | (simp; done) | (simp; omega)) _ | with_reducible refine Below.setCell ?_ (by first | omega | (simp; done) | (simp; omega)) _ | with_reducible assumption))⟩
        case round =>
          clear Hok hlt hk
          obtain ⟨k, hk, rfl, hok, hB, hb⟩ := hrel
          have Hok := Lib.hid hok
          clear hok
          have hz := hb.size
          have d3 : wr.cell? ⟨w.heap.size, 3, none⟩ = some (.slice A x.ps.length c) := hB.cell 3
          by_cases hlt : k < x.ps.length
          · obtain ⟨b, off, rfl, hbl, c0, c1, c2, c3, c4, c5⟩ := (HP.out.old hb).at k hlt
            cases hv : vp (gp x.ps k)
            · go_wp2_with fail
              refine (rvpart (gp x.ps k) _).mono ?_
              rintro e w1 ⟨rfl, hb1⟩
              go_wp2_with fail
              go_ret
              exact ⟨ret_int (chk_1 H1.out H2.out H3.out H9.out (allI_false k hlt hv)).symm, bl_trans (by (repeat (first | with_reducible exact Below.refl _ _ | with_reducible refine bl_drewN ?_ _ | with_reducible refine Below.drew ?_ | with_reducible refine bl_alloc ?_ _ | with_reducible refine Below.alloc ?_ (by first | omega | (simp; done) | (simp; omega)) _ | with_reducible refine Below.setCell ?_ (by first | omega | (simp; done) | (simp; omega)) _ | with_reducible assumption))) hb1⟩
            · go_wp2_with fail
              refine (rvpart (gp x.ps k) _).mono ?_
              rintro e w1 ⟨rfl, hb1⟩
              have hB1 := hB.old hb1
              have hc1 : Below w.heap.size w w1 := bl_trans (by (repeat (first | with_reducible exact Below.refl _ _ | with_reducible refine bl_drewN ?_ _ | with_reducible refine Below.drew ?_ | with_reducible refine bl_alloc ?_ _ | with_reducible refine Below.alloc ?_ (by first | omega | (simp; done) | (simp; omega)) _ | with_reducible refine Below.setCell ?_ (by first | omega | (simp; done) | (simp; omega)) _ | with_reducible assumption))) hb1
              clear hb1 hB hb c0 c1 c2 c3 c4 c5
              go_wp2_with fail
              go_roundw
              case rel =>
                refine ⟨k + 1, by omega, by go_num, fun j hj => ?_, hB1, hc1⟩
                by_cases hjk : j = k
                · subst hjk; exact hv
                · exact Hok.out j (by omega)
              case measure => simp [intOf]; omega
          · have H5 := Lib.hid (show psOk x.ps = true from allI_true fun j hj => Hok.out j (by omega))
            have HE' := Lib.hid (HE.out.old hb)
            go_wp2_with fail
            obtain ⟨wo, rfl⟩ : ∃ wo : World, wo = wr := ⟨_, rfl⟩
            go_loopw [5] (fun i wr => ∃ (k : Nat) (q : Nat), k ≤ x.en.length ∧ i = .int .i64 k ∧ (∀ j, j < k → enAt x.id x.en j = true) ∧ wr = wo.drewN q) (fun i _ => x.en.length - (intOf i).toNat)
            case atStart => exact ⟨0, 0, by omega, rfl, fun j hj => by omega, rfl⟩
            case round =>
              clear Hok hlt hk
              obtain ⟨k, q, hk, rfl, hok, rfl⟩ := hrel
              have Hok := Lib.hid hok
              clear hok
              have d0 : wo.cell? ⟨w.heap.size, 0, none⟩ = some (.int .i64 x.id) := hB.cell 0
              have d4 : wo.cell? ⟨w.heap.size, 4, none⟩ = some (.slice E x.en.length d) := hB.cell 4
              by_cases hlt : k < x.en.length
              · obtain ⟨b, off, rfl, hbl, hc⟩ := HE'.out k hlt
                have hlt' : (k : Int) < x.en.length := by omega
                have hk0 : (0 : Int) ≤ k := by omega
                cases t1 : decide (gi x.en k < 0)
                · cases t2 : decide (9999 < gi x.en k)
                  · cases t3 : gi x.en k == x.id
                    · have H8 := Lib.hid (show isn (gi x.en k) = true from decide_eq_true (by simp at t1 t2; omega))
                      cases t4 : decide (0 < (k : Int))
                      · have t4n : decide (0 < k) = false := by simp at t4 ⊢; omega
                        go_wp2_with fail
                        go_quiet (fail)
                        go_wp2_with fail
                        go_roundw
                        case rel =>
                          refine ⟨k + 1, _, by omega, by go_num, fun j hj => ?_, rfl⟩
                          simp at t4
                          obtain rfl : j = k := by omega
                          exact en_yes H8.out t3 (.inl (by omega))
                        case measure => simp [intOf]; omega
                      · simp at t4
                        have t4' : (k : Int) - 1 < x.en.length := by omega
                        have t4'' : (0 : Int) ≤ (k : Int) - 1 := by omega
                        have t4b : decide (0 < (k : Int)) = true := by simp; omega
                        obtain ⟨b', off', e', _, hc'⟩ := HE'.out (k - 1) (by omega)
                        cases e'
                        have hne : ¬ k = 0 := by omega
                        have Hne := Lib.hid hne
                        have t7 := Lib.hid (IntWalk.i64_in ((k : Int) - 1) (by omega))
                        have t8 := Lib.hid (sub_at k hne)
                        clear hne
                        cases t5 : decide (gi x.en k ≤ gi x.en (k - 1))
                        · have t5' : gi x.en (k - 1) < gi x.en k := by simp at t5; exact t5
                          go_wp2_with fail
                          have t7' := t7.out
                          have t8' := t8.out
                          go_quiet (fail)
                          clear t7' t8'
                          go_wp2_with fail
                          go_roundw
                          case rel =>
                            refine ⟨k + 1, _, by omega, by go_num, fun j hj => ?_, rfl⟩
                            by_cases hjk : j = k
                            · subst hjk; exact en_yes H8.out t3 (.inr t5')
                            · exact Hok.out j (by omega)
                          case measure => simp [intOf]; omega
                        · have t5' : ¬ gi x.en (k - 1) < gi x.en k := by simp at t5; omega
                          have T5 := Lib.hid t5'
                          clear t5'
                          go_wp2_with fail
                          have t7' := t7.out
                          have t8' := t8.out
                          go_quiet (fail)
                          clear t7' t8'
                          go_wp2_with fail
                          go_ret
                          exact ⟨ret_int (chk_9 H1.out H2.out H3.out H9.out H5.out (allI_false k hlt (en_no3 Hne.out (by have := T5.out; omega)))).symm, by (repeat (first | with_reducible exact Below.refl _ _ | with_reducible refine bl_drewN ?_ _ | with_reducible refine Below.drew ?_ | with_reducible refine bl_alloc ?_ _ | with_reducible refine Below.alloc ?_ (by first | omega | (simp; done) | (simp; omega)) _ | with_reducible refine Below.setCell ?_ (by first | omega | (simp; done) | (simp; omega)) _ | with_reducible assumption))⟩
                    · go_wp2_with fail
                      go_quiet (fail)
                      go_wp2_with fail
                      go_ret
                      exact ⟨ret_int (chk_9 H1.out H2.out H3.out H9.out H5.out (allI_false k hlt (en_no2 t3))).symm, by (repeat (first | with_reducible exact Below.refl _ _ | with_reducible refine bl_drewN ?_ _ | with_reducible refine Below.drew ?_ | with_reducible refine bl_alloc ?_ _ | with_reducible refine Below.alloc ?_ (by first | omega | (simp; done) | (simp; omega)) _ | with_reducible refine Below.setCell ?_ (by first | omega | (simp; done) | (simp; omega)) _ | with_reducible assumption))⟩
                  · go_wp2_with fail
                    go_quiet (fail)
                    go_wp2_with fail
                    go_ret
                    exact ⟨ret_int (chk_9 H1.out H2.out H3.out H9.out H5.out (allI_false k hlt (en_no1 (decide_eq_false (by simp at t2; omega))))).symm, by (repeat (first | with_reducible exact Below.refl _ _ | with_reducible refine bl_drewN ?_ _ | with_reducible refine Below.drew ?_ | with_reducible refine bl_alloc ?_ _ | with_reducible refine Below.alloc ?_ (by first | omega | (simp; done) | (simp; omega)) _ | with_reducible refine Below.setCell ?_ (by first | omega | (simp; done) | (simp; omega)) _ | with_reducible assumption))⟩
                · go_wp2_with fail
                  go_quiet (fail)
                  go_wp2_with fail
                  go_ret
                  exact ⟨ret_int (chk_9 H1.out H2.out H3.out H9.out H5.out (allI_false k hlt (en_no1 (decide_eq_false (by simp at t1; omega))))).symm, by (repeat (first | with_reducible exact Below.refl _ _ | with_reducible refine bl_drewN ?_ _ | with_reducible refine Below.drew ?_ | with_reducible refine bl_alloc ?_ _ | with_reducible refine Below.alloc ?_ (by first | omega | (simp; done) | (simp; omega)) _ | with_reducible refine Below.setCell ?_ (by first | omega | (simp; done) | (simp; omega)) _ | with_reducible assumption))⟩
              · go_wp2_with fail
                go_ret
                exact ⟨ret_int (chk_0 H1.out H2.out H3.out H9.out H5.out (allI_true fun j hj => Hok.out j (by omega))).symm, by (repeat (first | with_reducible exact Below.refl _ _ | with_reducible refine bl_drewN ?_ _ | with_reducible refine Below.drew ?_ | with_reducible refine bl_alloc ?_ _ | with_reducible refine Below.alloc ?_ (by first | omega | (simp; done) | (simp; omega)) _ | with_reducible refine Below.setCell ?_ (by first | omega | (simp; done) | (simp; omega)) _ | with_reducible assumption))⟩
end Go.Proofs.Ythjaomnmgggjbaa.Tm
