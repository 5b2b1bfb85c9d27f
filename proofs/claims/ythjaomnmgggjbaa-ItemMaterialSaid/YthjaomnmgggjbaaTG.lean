/- Walks: Check (all cases) and Total of items, of the reference; Cut. -/
import Derived.Test.YthjaomnmgggjbaaTF
import Derived.WalkKit
import Derived.WalkSpells
import Derived.WalkLawsBesides
import Derived.Deep.QuietTactic
import Derived.BigQuiet
import Derived.Deep.Draws
import Derived.Deep.AppendLies
import Derived.Laws.OwnMore
import Derived.Laws.BytesArg
import Derived.Lib.Hide
import Derived.Deep.LoopGhost
namespace Go.Proofs.Ythjaomnmgggjbaa.Tm
open Go.RowKit Go.Proofs.Ythjaomnmgggjbaa.Mw
set_option linter.unusedVariables false

set_option maxHeartbeats 1000000 in
set_option maxRecDepth 100000 in
theorem rcheck_any (x : It) (A : Option Addr) (c : Nat) (E : Option Addr) (d : Nat) (w : World) (hx : ItOk w x A E) :
    Calls Try.prog 20 #[iv x A c E d] w fun e w' => e = .returned (.int .i64 (chk x)) ∧ Below w.heap.size w w' := by
  by_cases h1 : isn x.id = true ∧ 1 ≤ x.ver ∧ x.ver ≤ 8
  · by_cases h4 : x.stem.size ≤ 40 ∧ x.ps.length ≤ 6 ∧ x.en.length ≤ 8
    · by_cases h7 : x.stem.size = 0
      · have h8 : x.stem = ⟨#[]⟩ := ByteArray.size_eq_zero_iff.1 h7
        have H3 := Lib.hid (chk_7 h1 h4 (by omega))
        obtain ⟨h1, h2, h3⟩ := h1
        obtain ⟨i1, i2⟩ := isn_yes h1
        obtain ⟨h4, h5, h6⟩ := h4
        clear h7 hx
        go_enter Try.func20, Try.ntmps20
        go_wp2_with fail
        go_ret
        exact ⟨ret_int H3.out.symm, by (repeat (first | with_reducible exact Below.refl _ _ | with_reducible refine bl_drewN ?_ _ | with_reducible refine Below.drew ?_ | with_reducible refine bl_alloc ?_ _ | with_reducible refine Below.alloc ?_ (by first | omega | (simp; done) | (simp; omega)) _ | with_reducible refine Below.setCell ?_ (by first | omega | (simp; done) | (simp; omega)) _ | with_reducible assumption))⟩
      · exact rcheck_ok x A c E d w hx h1.1 h1.2.1 h1.2.2 h4.1 h4.2.1 h4.2.2 h7
    · have H2 := Lib.hid (chk_3 h1 h4)
      obtain ⟨h1, h2, h3⟩ := h1
      obtain ⟨i1, i2⟩ := isn_yes h1
      obtain ⟨hP, hE, hs, hpl, hel⟩ := hx
      clear hP hE
      go_enter Try.func20, Try.ntmps20
      go_wp2_with fail
      all_goals (first | (go_ret; exact ⟨ret_int H2.out.symm, by (repeat (first | with_reducible exact Below.refl _ _ | with_reducible refine bl_drewN ?_ _ | with_reducible refine Below.drew ?_ | with_reducible refine bl_alloc ?_ _ | with_reducible refine Below.alloc ?_ (by first | omega | (simp; done) | (simp; omega)) _ | with_reducible refine Below.setCell ?_ (by first | omega | (simp; done) | (simp; omega)) _ | with_reducible assumption))⟩) | (exfalso; omega))
  · have H2 := Lib.hid (chk_2 h1)
    have h1' : ¬ (0 ≤ x.id ∧ x.id ≤ 9999 ∧ 1 ≤ x.ver ∧ x.ver ≤ 8) := fun h => h1 ⟨decide_eq_true ⟨h.1, h.2.1⟩, h.2.2⟩
    obtain ⟨hP, hE, hs, hpl, hel⟩ := hx
    clear hP hE h1
    go_enter Try.func20, Try.ntmps20
    go_wp2_with fail
    all_goals (first | (go_ret; exact ⟨ret_int H2.out.symm, by (repeat (first | with_reducible exact Below.refl _ _ | with_reducible refine bl_drewN ?_ _ | with_reducible refine Below.drew ?_ | with_reducible refine bl_alloc ?_ _ | with_reducible refine Below.alloc ?_ (by first | omega | (simp; done) | (simp; omega)) _ | with_reducible refine Below.setCell ?_ (by first | omega | (simp; done) | (simp; omega)) _ | with_reducible assumption))⟩) | (exfalso; omega))

set_option maxHeartbeats 400000 in
theorem rtotal_any (x : It) (A : Option Addr) (c : Nat) (E : Option Addr) (d : Nat) (w : World) (hx : ItOk w x A E) :
    Calls Try.prog 22 #[iv x A c E d] w fun e w' => e = .returned (.int .i64 (tot x)) ∧ Below w.heap.size w w' := by
  have HX := Lib.hid hx
  clear hx
  by_cases h : chk x = 0
  · have hn : (chk x != 0) = false := by simp [h]
    have Hk := Lib.hid (chk_ok h)
    have Ht := Lib.hid (tot_0 h)
    clear h
    go_enter Try.func22, Try.ntmps22
    go_wp2_with fail
    refine (rcheck_any x A c E d _ (HX.out.old (by (repeat (first | with_reducible exact Below.refl _ _ | with_reducible refine bl_drewN ?_ _ | with_reducible refine Below.drew ?_ | with_reducible refine bl_alloc ?_ _ | with_reducible refine Below.alloc ?_ (by first | omega | (simp; done) | (simp; omega)) _ | with_reducible refine Below.setCell ?_ (by first | omega | (simp; done) | (simp; omega)) _ | with_reducible assumption))))).mono ?_
    rintro e w1 ⟨rfl, hb1⟩
    have hB : Bk w1 w.heap.size 33 (itc x A c E d) := (Bk.new _ _ _).old hb1
    have d3 : w1.cell? ⟨w.heap.size, 3, none⟩ = some (.slice A x.ps.length c) := hB.cell 3
    have hc1 : Below w.heap.size w w1 := bl_trans (by (repeat (first | with_reducible exact Below.refl _ _ | with_reducible refine bl_drewN ?_ _ | with_reducible refine Below.drew ?_ | with_reducible refine bl_alloc ?_ _ | with_reducible refine Below.alloc ?_ (by first | omega | (simp; done) | (simp; omega)) _ | with_reducible refine Below.setCell ?_ (by first | omega | (simp; done) | (simp; omega)) _ | with_reducible assumption))) hb1
    have hle : x.ps.length ≤ 6 := by have := Hk.out.2.1; omega
    clear hb1
    go_wp2_with fail
    go_loop [3, 4] (fun s i => ∃ k : Nat, k ≤ x.ps.length ∧ i = .int .i64 k ∧ s = .int .i64 (sm x.ps k)) (fun _ i => x.ps.length - (intOf i).toNat)
    case atStart => exact ⟨0, by omega, rfl, rfl⟩
    case round =>
      obtain ⟨k, hk, rfl, rfl⟩ := hrel
      obtain ⟨q0, q1⟩ := sm_bd x.ps Hk.out.2.2.2.2.1 k hk
      by_cases hlt : k < x.ps.length
      · obtain ⟨b, off, rfl, hbl, c0, c1, c2, c3, c4, c5⟩ := (HX.out.1.old hc1).at k hlt
        obtain ⟨q2, q3⟩ := sm_bd x.ps Hk.out.2.2.2.2.1 (k + 1) hlt
        unfold sm at q2 q3
        go_wp2_with fail
        go_round
        case rel => exact ⟨k + 1, by omega, by go_num, rfl⟩
        case measure => simp [intOf]; omega
      · have Hk' : Hid (k = x.ps.length) := by unfold Hid; omega
        go_wp2_with fail
        go_ret
        exact ⟨ret_int (by rw [Ht.out, Hk'.out]), hc1⟩
  · have hn : (chk x != 0) = true := by simp [h]
    have Ht := Lib.hid (tot_1 h)
    clear h
    go_enter Try.func22, Try.ntmps22
    go_wp2_with fail
    refine (rcheck_any x A c E d _ (HX.out.old (by (repeat (first | with_reducible exact Below.refl _ _ | with_reducible refine bl_drewN ?_ _ | with_reducible refine Below.drew ?_ | with_reducible refine bl_alloc ?_ _ | with_reducible refine Below.alloc ?_ (by first | omega | (simp; done) | (simp; omega)) _ | with_reducible refine Below.setCell ?_ (by first | omega | (simp; done) | (simp; omega)) _ | with_reducible assumption))))).mono ?_
    rintro e w1 ⟨rfl, hb1⟩
    go_wp2_with fail
    go_ret
    exact ⟨ret_int Ht.out.symm, bl_trans (by (repeat (first | with_reducible exact Below.refl _ _ | with_reducible refine bl_drewN ?_ _ | with_reducible refine Below.drew ?_ | with_reducible refine bl_alloc ?_ _ | with_reducible refine Below.alloc ?_ (by first | omega | (simp; done) | (simp; omega)) _ | with_reducible refine Below.setCell ?_ (by first | omega | (simp; done) | (simp; omega)) _ | with_reducible assumption))) hb1⟩
end Go.Proofs.Ythjaomnmgggjbaa.Tm
