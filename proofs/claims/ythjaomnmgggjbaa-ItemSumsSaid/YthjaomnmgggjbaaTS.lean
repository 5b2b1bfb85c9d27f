/- Walk: the statement ItemSums. -/
import Derived.Test.YthjaomnmgggjbaaTR
import Derived.Test.YthjaomnmgggjbaaTY
import Derived.Test.YthjaomnmgggjbaaMem
import Derived.WalkKit
import Derived.WalkSpells
import Derived.WalkLawsBesides
import Derived.Deep.QuietTactic
import Derived.BigQuiet
import Derived.Deep.Draws
import Derived.Deep.AppendLies
import Derived.Laws.OwnMore
import Derived.Laws.BytesArg
import Derived.Lib.Hide
import Derived.Deep.LoopGhost
import Derived.Deep.DeepCutAuto
namespace Go.Proofs.Ythjaomnmgggjbaa.Tm
open Go.RowKit Go.Proofs.Ythjaomnmgggjbaa.Mw
set_option linter.unusedVariables false

theorem chl_app (l : List Pt) (i : Nat) : ∀ n, i ≤ n → ∃ r, chl l n = chl l i ++ r
  | 0, h => ⟨[], by obtain rfl : i = 0 := by omega
                    simp⟩
  | n + 1, h => by
    by_cases e : i = n + 1
    · subst e; exact ⟨[], by simp⟩
    · obtain ⟨r, hr⟩ := chl_app l i n (by omega)
      rw [chl]
      split
      · exact ⟨r ++ [(n : Int)], by rw [hr, List.append_assoc]⟩
      · exact ⟨r, hr⟩
theorem chl_at {l : List Pt} {i n : Nat} (h : i < n) (hk : ((gp l i).k == 2) = true) : (chl l i).length < (chl l n).length ∧ gi (chl l n) (chl l i).length = i := by
  obtain ⟨r, hr⟩ := chl_app l (i + 1) n (by omega)
  rw [hr, chl_yes hk, List.append_assoc]
  refine ⟨by simp, ?_⟩
  unfold gi
  simp
theorem sums_ok {x : It} (h : chk x = 0) (h3 : x.ps.length ≤ 3) : vpp 0 0 x.ps = true ∧ tot x = sm x.ps x.ps.length ∧ ptot 0 0 x.ps = sm x.ps x.ps.length ∧ 0 < sm x.ps x.ps.length ∧ choi 0 0 x.ps = chl x.ps x.ps.length := by
  obtain ⟨h1, h2, h4, h5, h6, h7⟩ := chk_ok h
  have hb := sm_bd x.ps h6 x.ps.length (Nat.le_refl _)
  have hv : vpp 0 0 x.ps = true := by
    rw [vpp_s (decide_eq_true ⟨by omega, by omega, by omega, by omega, by omega, by omega⟩) h6]
    exact decide_eq_true (by omega)
  exact ⟨hv, tot_0 h, if_pos hv, by omega, if_pos hv⟩

set_option maxHeartbeats 2000000 in
set_option maxRecDepth 100000 in
theorem sums_any (l : List Int) (B : Option Addr) (cB : Nat) (w : World) (hl : l.length ≤ maxLen) (hlc : l.length ≤ cB) (hi : ∀ n ∈ l, I64 n) (hB : RdI w .i64 B l) :
    Calls Try.prog 10 #[.slice B l.length cB] w fun e w' => e = .returned (.bool true) ∧ Below w.heap.size w w' := by
  go_enter Try.func10, Try.ntmps10
  go_wp2_with fail
  refine (new_any l B cB _ hB hl hlc hi).mono ?_
  rintro e w1 ⟨rfl, ht1, hb1⟩
  have hlt1 := ht1.lt
  clear hB hi
  unfold maxLen at hl
  go_wp2_with fail
  refine (item0_any w.heap.size 1 1 0 _ ht1 (by omega)).mono ?_
  rintro e w2 ⟨x, A, c, E, d, hx, hA, hE, hv, rfl, ht2, hg2⟩
  have hc2 : Below w.heap.size w w2 := bl_gb hb1 hg2 (Nat.le_refl _)
  obtain ⟨hxid, hchk, hx3⟩ := hv (by omega) (by decide) (by omega) (by omega)
  obtain ⟨q1, q2, q3, q4, q5⟩ := sums_ok hchk hx3
  have HX := Lib.hid hx
  have H2 := Lib.hid q2
  have H3 := Lib.hid q3
  have H5 := Lib.hid q5
  have hxl := hx.2.2.2.1
  clear hx hA hE hv hb1 hg2 ht1 ht2 hxid hchk q1 q2 q3 q5
  go_wp2_with fail
  refine (choices_any 0 0 A x.ps c _ hxl ((HX.out.1.alloc _).alloc _)).mono ?_
  rintro e w3 ⟨L, cL, rfl, hrL, haL, hb3⟩
  rw [H5.out] at hrL ⊢
  have C1 : Bk w3 w2.heap.size 33 (itc x A c E d) := Bk.old (by (repeat (first | ((with_reducible refine Bk.new' ?_); (first | rfl | (simp; done) | (simp; omega))) | with_reducible refine Bk.alloc ?_ _ | with_reducible refine Bk.drewN ?_ _ | with_reducible refine Bk.drew ?_ | with_reducible assumption))) hb3
  have C2 : Bk w3 (w2.heap.size + 1) 46 (ppc 0 0 A x.ps c) := Bk.old (by (repeat (first | ((with_reducible refine Bk.new' ?_); (first | rfl | (simp; done) | (simp; omega))) | with_reducible refine Bk.alloc ?_ _ | with_reducible refine Bk.drewN ?_ _ | with_reducible refine Bk.drew ?_ | with_reducible assumption))) hb3
  have hc3 : Below w.heap.size w w3 := bl_trans (by (repeat (first | with_reducible exact Below.refl _ _ | with_reducible refine bl_drewN ?_ _ | with_reducible refine Below.drew ?_ | with_reducible refine bl_alloc ?_ _ | with_reducible refine Below.alloc ?_ (by first | omega | (simp; done) | (simp; omega)) _ | with_reducible refine Below.setCell ?_ (by first | omega | (simp; done) | (simp; omega)) _ | with_reducible assumption))) hb3
  have hw23 : Below w2.heap.size w2 w3 := bl_trans (by (repeat (first | with_reducible exact Below.refl _ _ | with_reducible refine bl_drewN ?_ _ | with_reducible refine Below.drew ?_ | with_reducible refine bl_alloc ?_ _ | with_reducible refine Below.alloc ?_ (by first | omega | (simp; done) | (simp; omega)) _ | with_reducible refine Below.setCell ?_ (by first | omega | (simp; done) | (simp; omega)) _ | with_reducible assumption))) hb3
  have HX3 := Lib.hid (HX.out.old hw23)
  have HRL := Lib.hid hrL
  clear hb3 hrL haL hw23
  have d3 : w3.cell? ⟨w2.heap.size, 3, none⟩ = some (.slice A x.ps.length c) := C1.cell 3
  obtain ⟨LL, hLL⟩ : ∃ n : Nat, n = (chl x.ps x.ps.length).length := ⟨_, rfl⟩
  have hLn := chl_len x.ps x.ps.length
  go_wp2_with fail
  go_loop [6, 7] (fun k i => ∃ j : Nat, j ≤ x.ps.length ∧ i = .int .i64 j ∧ k = .int .i64 ((chl x.ps j).length : Int)) (fun _ i => x.ps.length - (intOf i).toNat)
  case atStart => exact ⟨0, by omega, rfl, rfl⟩
  case round =>
    obtain ⟨j, hj, rfl, rfl⟩ := hrel
    have hcj := chl_len x.ps j
    by_cases hlt : j < x.ps.length
    · obtain ⟨b, off, rfl, hbl, c0, c1, c2, c3, c4, c5⟩ := HX3.out.1.at j hlt
      cases hk : ((gp x.ps j).k == 2)
      · have Hc := Lib.hid (chl_no hk)
        go_wp2_with fail
        go_round
        case rel => exact ⟨j + 1, by omega, by go_num, by rw [Hc.out]⟩
        case measure => simp [intOf]; omega
      · have Hc := Lib.hid (chl_yes hk)
        obtain ⟨g1, g2⟩ := chl_at hlt hk
        obtain ⟨b', off', rfl, hbl', hc'⟩ := HRL.out _ g1
        rw [g2] at hc'
        have g1' : ((chl x.ps j).length : Int) < (chl x.ps x.ps.length).length := by omega
        have g3 : decide ((chl x.ps x.ps.length).length ≤ (chl x.ps j).length) = false := by simp; omega
        have G2 := Lib.hid g2
        clear g2
        go_wp2_with fail
        go_round
        case rel => exact ⟨j + 1, by omega, by go_num, by rw [Hc.out, List.length_append]; go_num⟩
        case measure => simp [intOf]; omega
    · have Hj : Hid (j = x.ps.length) := by unfold Hid; omega
      go_upto_region 12 with fail
      rw [Hj.out]
      have l1 := C1.lt
      have l2 := C2.lt
      obtain ⟨⟨s0, s1, s2, s3, s4⟩, _⟩ := bk5 C1
      obtain ⟨⟨t0, t1, t2⟩, _⟩ := bk3 C2
      obtain ⟨S, hS⟩ : ∃ S : Int, S = sm x.ps x.ps.length := ⟨_, rfl⟩
      have HT : ∀ y : Mm.Ex, Calls Try.prog 21 #[iv x A c E d] (Mm.ext w3 y) fun e w' => e = .returned (.int .i64 S) ∧ Below (Mm.ext w3 y).heap.size (Mm.ext w3 y) w' := fun y => by
        have := total_any x A c E d (Mm.ext w3 y) (HX3.out.old (Mm.ext_below w3 y))
        rw [H2.out, ← hS] at this
        exact this
      have HP : ∀ y : Mm.Ex, Calls Try.prog 31 #[.agg (ppc 0 0 A x.ps c)] (Mm.ext w3 y) fun e w' => e = .returned (.int .i64 S) ∧ Below (Mm.ext w3 y).heap.size (Mm.ext w3 y) w' := fun y => by
        have := ptotal_any 0 0 A x.ps c (Mm.ext w3 y) hxl (HX3.out.1.old (Mm.ext_below w3 y))
        rw [H3.out, ← hS] at this
        exact this
      have hS0 : 0 < S := by rw [hS]; exact q4
      have hSd : decide (0 < S) = true := by simp; omega
      have HT' := Lib.hid HT
      have HP' := Lib.hid HP
      clear HT HP hS
      refine Mm.region_ext (by kernel_rfl) (by kernel_rfl) ?_; (repeat (quiet_step ((first | (go_at_call 21; exact Mm.calls_ext (HT'.out _)) | (go_at_call 31; exact Mm.calls_ext (HP'.out _)) | (go_at_call 14; exact Mm.calls_ext (awake_any _)))))); refine wpQuiet_nil ?_
      intro w5 hb5
      go_wp2_with fail
      go_ret
      exact ⟨rfl, bl_trans hc3 hb5⟩
end Go.Proofs.Ythjaomnmgggjbaa.Tm
