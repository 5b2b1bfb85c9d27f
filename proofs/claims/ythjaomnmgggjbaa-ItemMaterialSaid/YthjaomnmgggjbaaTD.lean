/- Walks: Check, sumOfMax and Total of items, of the program. -/
import Derived.Test.YthjaomnmgggjbaaTC
import Derived.WalkKit
import Derived.WalkSpells
import Derived.WalkLawsBesides
import Derived.Deep.QuietTactic
import Derived.BigQuiet
import Derived.Deep.Draws
import Derived.Deep.AppendLies
import Derived.Laws.OwnMore
import Derived.Laws.BytesArg
import Derived.Lib.Hide
import Derived.Deep.LoopGhost
namespace Go.Proofs.Ythjaomnmgggjbaa.Tm
open Go.RowKit Go.Proofs.Ythjaomnmgggjbaa.Mw
set_option linter.unusedVariables false

abbrev itc (x : It) (A : Option Addr) (c : Nat) (E : Option Addr) (d : Nat) : Array Value := #[.int .i64 x.id, .int .i64 x.ver, .string x.stem, .slice A x.ps.length c, .slice E x.en.length d]

set_option maxHeartbeats 1000000 in
theorem check_any (x : It) (A : Option Addr) (c : Nat) (E : Option Addr) (d : Nat) (w : World) (hx : ItOk w x A E) :
    Calls Try.prog 19 #[iv x A c E d] w fun e w' => e = .returned (.int .i64 (chk x)) ∧ Below w.heap.size w w' := by
  obtain ⟨hP, hE, hs, hpl, hel⟩ := hx
  have HP := Lib.hid hP
  have HE := Lib.hid hE
  clear hP hE
  cases h1 : isn x.id
  · go_enter Try.func19, Try.ntmps19
    go_wp2_with (go_at_call 41; refine (isnum _ _).mono ?_; rintro e w' ⟨rfl, rfl⟩)
    go_ret
    exact ⟨ret_int (chk_2 (by simp [h1])).symm, by (repeat (first | with_reducible exact Below.refl _ _ | with_reducible refine bl_drewN ?_ _ | with_reducible refine Below.drew ?_ | with_reducible refine bl_alloc ?_ _ | with_reducible refine Below.alloc ?_ (by first | omega | (simp; done) | (simp; omega)) _ | with_reducible refine Below.setCell ?_ (by first | omega | (simp; done) | (simp; omega)) _ | with_reducible assumption))⟩
  · by_cases h2 : 1 ≤ x.ver ∧ x.ver ≤ 8
    · have H1 := Lib.hid (And.intro h1 h2)
      obtain ⟨h2, h3⟩ := h2
      by_cases h4 : x.stem.size ≤ 40 ∧ x.ps.length ≤ 6 ∧ x.en.length ≤ 8
      · have H2 := Lib.hid h4
        obtain ⟨h4, h5, h6⟩ := h4
        by_cases h7 : x.stem.size = 0
        · have h8 : x.stem = ⟨#[]⟩ := by
            have := ByteArray.size_eq_zero_iff.1 h7
            exact this
          have H3 := Lib.hid (chk_7 H1.out H2.out (by omega))
          clear h7
          go_enter Try.func19, Try.ntmps19
          go_wp2_with (go_at_call 41; refine (isnum _ _).mono ?_; rintro e w' ⟨rfl, rfl⟩)
          go_ret
          exact ⟨ret_int H3.out.symm, by (repeat (first | with_reducible exact Below.refl _ _ | with_reducible refine bl_drewN ?_ _ | with_reducible refine Below.drew ?_ | with_reducible refine bl_alloc ?_ _ | with_reducible refine Below.alloc ?_ (by first | omega | (simp; done) | (simp; omega)) _ | with_reducible refine Below.setCell ?_ (by first | omega | (simp; done) | (simp; omega)) _ | with_reducible assumption))⟩
        · obtain ⟨h7a, h7b⟩ := stem_ne x.stem h7
          have b1 : decide (x.ver < 1) = false := by simp; omega
          have b2 : decide (8 < x.ver) = false := by simp; omega
          have b3 : decide (40 < (x.stem.size : Int)) = false := by simp; omega
          have b4 : decide (6 < (x.ps.length : Int)) = false := by simp; omega
          have b5 : decide (8 < (x.en.length : Int)) = false := by simp; omega
          cases h8 : prt x.stem
          · go_enter Try.func19, Try.ntmps19
            go_wp2_with (first | (go_at_call 41; refine (isnum _ _).mono ?_; rintro e w' ⟨rfl, rfl⟩) | (go_at_call 42; refine (print_any _ hs _).mono ?_; rintro e w' ⟨rfl, rfl⟩))
            go_ret
            exact ⟨ret_int (chk_7 H1.out H2.out (by simp [h8])).symm, by (repeat (first | with_reducible exact Below.refl _ _ | with_reducible refine bl_drewN ?_ _ | with_reducible refine Below.drew ?_ | with_reducible refine bl_alloc ?_ _ | with_reducible refine Below.alloc ?_ (by first | omega | (simp; done) | (simp; omega)) _ | with_reducible refine Below.setCell ?_ (by first | omega | (simp; done) | (simp; omega)) _ | with_reducible assumption))⟩
          · have H3 : Hid (x.stem.size ≠ 0 ∧ prt x.stem = true) := ⟨h7, h8⟩
            clear h7
            by_cases h9 : x.ps.length = 0
            · have H4 := Lib.hid (chk_10 H1.out H2.out H3.out h9)
              go_enter Try.func19, Try.ntmps19
              go_wp2_with (first | (go_at_call 41; refine (isnum _ _).mono ?_; rintro e w' ⟨rfl, rfl⟩) | (go_at_call 42; refine (print_any _ hs _).mono ?_; rintro e w' ⟨rfl, rfl⟩))
              go_ret
              exact ⟨ret_int H4.out.symm, by (repeat (first | with_reducible exact Below.refl _ _ | with_reducible refine bl_drewN ?_ _ | with_reducible refine Below.drew ?_ | with_reducible refine bl_alloc ?_ _ | with_reducible refine Below.alloc ?_ (by first | omega | (simp; done) | (simp; omega)) _ | with_reducible refine Below.setCell ?_ (by first | omega | (simp; done) | (simp; omega)) _ | with_reducible assumption))⟩
            · have h9' : ((x.ps.length : Int) == 0) = false := by rw [beq_eq_false_iff_ne]; omega
              have H9 := Lib.hid h9
              clear h9
              go_enter Try.func19, Try.ntmps19
              go_wp2_with (first | (go_at_call 41; refine (isnum _ _).mono ?_; rintro e w' ⟨rfl, rfl⟩) | (go_at_call 42; refine (print_any _ hs _).mono ?_; rintro e w' ⟨rfl, rfl⟩))
              go_loopw [51] (fun i wr => ∃ k : Nat, k ≤ x.ps.length ∧ i = .int .i64 k ∧ (∀ j, j < k → vp (gp x.ps j) = true) ∧ Bk wr w.heap.size 33 (itc x A c E d) ∧ Below w.heap.size w wr) (fun i _ => x.ps.length - (intOf i).toNat)
              case atStart => exact ⟨0, by omega, rfl, fun j hj => by omega, Bk.new _ _ _, by (repeat (first | with_reducible exact Below.refl _ _ | with_reducible refine bl_drewN ?_ _ | with_reducible refine Below.drew ?_ | with_reducible refine bl_alloc ?_ _ | with_reducible refine Below.alloc ?_ (by first | omega | (simp; done) | (simp; omega)) _ | with_reducible refine Below.setCell ?_ (by first | omega | (simp; done) | (simp; omega)) _ | with_reducible assumption))⟩
              case round =>
                obtain ⟨k, hk, rfl, hok, hB, hb⟩ := hrel
                have Hok := Lib.hid hok
                clear hok
                have hz := hb.size
                by_cases hlt : k < x.ps.length
                · obtain ⟨b, off, rfl, hbl, c0, c1, c2, c3, c4, c5⟩ := (HP.out.old hb).at k hlt
                  cases hv : vp (gp x.ps k)
                  · go_wp2_with fail
                    refine (vpart (gp x.ps k) _).mono ?_
                    rintro e w1 ⟨rfl, hb1⟩
                    go_wp2_with fail
                    go_ret
                    exact ⟨ret_int (chk_1 H1.out H2.out H3.out H9.out (allI_false k hlt hv)).symm, bl_trans (by (repeat (first | with_reducible exact Below.refl _ _ | with_reducible refine bl_drewN ?_ _ | with_reducible refine Below.drew ?_ | with_reducible refine bl_alloc ?_ _ | with_reducible refine Below.alloc ?_ (by first | omega | (simp; done) | (simp; omega)) _ | with_reducible refine Below.setCell ?_ (by first | omega | (simp; done) | (simp; omega)) _ | with_reducible assumption))) hb1⟩
                  · go_wp2_with fail
                    refine (vpart (gp x.ps k) _).mono ?_
                    rintro e w1 ⟨rfl, hb1⟩
                    have hB1 := (hB.alloc _).old hb1
                    have hc1 : Below w.heap.size w w1 := bl_trans (by (repeat (first | with_reducible exact Below.refl _ _ | with_reducible refine bl_drewN ?_ _ | with_reducible refine Below.drew ?_ | with_reducible refine bl_alloc ?_ _ | with_reducible refine Below.alloc ?_ (by first | omega | (simp; done) | (simp; omega)) _ | with_reducible refine Below.setCell ?_ (by first | omega | (simp; done) | (simp; omega)) _ | with_reducible assumption))) hb1
                    clear hb1 hB hb c0 c1 c2 c3 c4 c5
                    go_wp2_with fail
                    go_roundw
                    case rel =>
                      refine ⟨k + 1, by omega, by go_num, fun j hj => ?_, hB1, hc1⟩
                      by_cases hjk : j = k
                      · subst hjk; exact hv
                      · exact Hok.out j (by omega)
                    case measure => simp [intOf]; omega
                · have H5 := Lib.hid (show psOk x.ps = true from allI_true fun j hj => Hok.out j (by omega))
                  have d0 : wr.cell? ⟨w.heap.size, 0, none⟩ = some (.int .i64 x.id) := hB.cell 0
                  have d4 : wr.cell? ⟨w.heap.size, 4, none⟩ = some (.slice E x.en.length d) := hB.cell 4
                  have HE' := Lib.hid (HE.out.old hb)
                  cases he : enOk x.id x.en
                  · go_wp2_with (go_at_call 43; refine (enem_any _ _ _ _ _ hel HE'.out).mono ?_; rintro e w' ⟨rfl, rfl⟩)
                    go_ret
                    exact ⟨ret_int (chk_9 H1.out H2.out H3.out H9.out H5.out he).symm, hb⟩
                  · go_wp2_with (go_at_call 43; refine (enem_any _ _ _ _ _ hel HE'.out).mono ?_; rintro e w' ⟨rfl, rfl⟩)
                    go_ret
                    exact ⟨ret_int (chk_0 H1.out H2.out H3.out H9.out H5.out he).symm, hb⟩
      · have H2 := Lib.hid (chk_3 H1.out h4)
        go_enter Try.func19, Try.ntmps19
        go_wp2_with (go_at_call 41; refine (isnum _ _).mono ?_; rintro e w' ⟨rfl, rfl⟩)
        all_goals (first | (go_ret; exact ⟨ret_int H2.out.symm, by (repeat (first | with_reducible exact Below.refl _ _ | with_reducible refine bl_drewN ?_ _ | with_reducible refine Below.drew ?_ | with_reducible refine bl_alloc ?_ _ | with_reducible refine Below.alloc ?_ (by first | omega | (simp; done) | (simp; omega)) _ | with_reducible refine Below.setCell ?_ (by first | omega | (simp; done) | (simp; omega)) _ | with_reducible assumption))⟩) | (exfalso; omega))
    · go_enter Try.func19, Try.ntmps19
      go_wp2_with (go_at_call 41; refine (isnum _ _).mono ?_; rintro e w' ⟨rfl, rfl⟩)
      all_goals (go_ret; exact ⟨ret_int (chk_2 (fun h => h2 h.2)).symm, by (repeat (first | with_reducible exact Below.refl _ _ | with_reducible refine bl_drewN ?_ _ | with_reducible refine Below.drew ?_ | with_reducible refine bl_alloc ?_ _ | with_reducible refine Below.alloc ?_ (by first | omega | (simp; done) | (simp; omega)) _ | with_reducible refine Below.setCell ?_ (by first | omega | (simp; done) | (simp; omega)) _ | with_reducible assumption))⟩)
end Go.Proofs.Ythjaomnmgggjbaa.Tm
