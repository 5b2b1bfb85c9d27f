/- Walks: the statement MonitorSteps. -/
import Derived.Test.YtpgkiiaoddhdcaaMK
import Derived.WalkKit
import Derived.WalkSpells
import Derived.WalkLawsBesides
import Derived.Deep.QuietTactic
import Derived.BigQuiet
import Derived.Deep.Draws
import Derived.Deep.AppendLies
import Derived.Laws.OwnMore
import Derived.Laws.BytesArg
import Derived.Lib.Hide
import Derived.Deep.LoopGhost
namespace Go.Proofs.Ytpgkiiaoddhdcaa.Mo
open Go.RowKit Go.Proofs.Ytpgkiiaoddhdcaa.Mw Go.Proofs.Ytpgkiiaoddhdcaa.Dc
set_option linter.unusedVariables false

theorem fl_nil (r : Rl) (hr : chk r = true) : fl r [] = false := decide_eq_false (by have := chk_bd hr; rw [cnt_nil]; omega)
theorem vld_pr (r : Rl) (l : List Bool) (k : Nat) (s : Bool) (hr : chk r = true) (hk : k ≤ l.length) (hs : s = fl r (pr r.w.toNat l k)) : vld r (pr r.w.toNat l k) s = true := by
  have h1 := chk_bd hr
  have h2 := pr_len r.w.toNat l k hk
  unfold vld
  rw [hr, hs, decide_eq_true (by rw [h2]; omega)]
  simp
theorem pr_last (W : Nat) (l : List Bool) (k : Nat) (hW : 1 ≤ W) (hk : k < l.length) : bi (pr W l (k + 1)) ((pr W l (k + 1)).length - 1) = bi l k := by
  have hl := pr_len W l k (by omega)
  rw [← pr_step W l k hk]
  exact nx_last W _ _ hW (by omega)

set_option maxHeartbeats 2000000 in
set_option maxRecDepth 100000 in
theorem steps_any (t : List Int) (A : Option Addr) (c : Nat) (l : List Bool) (B : Option Addr) (d : Nat) (w : World) (ht : t.length ≤ maxLen) (hti : ∀ n ∈ t, I64 n) (hrt : RdI w .i64 A t) (hl : l.length ≤ maxLen) (hrl : RdB w B l) :
    Calls Try.prog 7 #[.slice A t.length c, .slice B l.length d] w fun e w' => e = .returned (.bool true) ∧ Below w.heap.size w w' := by
  unfold maxLen at ht hl
  by_cases h6 : t.length ≤ 600
  · have h6' : decide (t.length ≤ 600) = true := decide_eq_true h6
    by_cases h60 : l.length ≤ 60
    · have h60' : decide (60 < (l.length : Int)) = false := decide_eq_false (by omega)
      have Hti := Lib.hid hti
      clear hti
      go_enter Try.func7, Try.ntmps7
      go_wp2_with (go_at_call 8; refine (light_any t A c _).mono ?_; rintro e w' ⟨rfl, rfl⟩)
      refine (roll_any t A c _ hrt (by omega) Hti.out).mono ?_
      rintro e w1 ⟨rfl, hd1, hb1⟩
      go_wp2_with fail
      refine (monitor_any _ _ hd1).mono ?_
      rintro e w2 ⟨r, hck, hp1, hp2, hp3, rfl, hd2, hg2⟩
      have hc2 : Below w.heap.size w w2 := bl_gb hb1 hg2 (Nat.le_refl _)
      have hcb := chk_bd hck
      have Hck := Lib.hid hck
      have HR := Lib.hid hrl
      clear hb1 hg2 hd1 hd2 hck hrt hrl Hti
      have Hp0 := Lib.hid (pr_zero r.w.toNat l)
      have Hf0 := Lib.hid (fl_nil r Hck.out)
      go_wp2_with fail
      refine (run_yes r l B d Hck.out _ (by omega) ((HR.out.old hc2).alloc _)).mono ?_
      rintro e w3 ⟨rfl, hb3⟩
      have hB3 : Bk w3 w2.heap.size 24 (rc r) := Bk.old (by (repeat (first | ((with_reducible refine Mw.Bk.new' ?_); (first | rfl | (simp; done) | (simp; omega))) | with_reducible refine Mw.Bk.alloc ?_ _ | with_reducible refine Mw.Bk.drewN ?_ _ | with_reducible refine Mw.Bk.drew ?_ | with_reducible assumption))) hb3
      have hc3 : Below w.heap.size w w3 := bl_trans (by (repeat (first | with_reducible exact Below.refl _ _ | with_reducible refine bl_drewN ?_ _ | with_reducible refine Below.drew ?_ | with_reducible refine bl_alloc ?_ _ | with_reducible refine Below.alloc ?_ (by first | omega | (simp; done) | (simp; omega)) _ | with_reducible refine Below.setCell ?_ (by first | omega | (simp; done) | (simp; omega)) _ | with_reducible assumption))) hb3
      have hz3 := hB3.lt
      have hs2 := hc2.size
      clear hb3 hc2
      obtain ⟨S, hS⟩ : ∃ S, S = runS r l := ⟨_, rfl⟩
      rw [← hS]
      have HS := Lib.hid hS
      clear hS
      go_wp2_with fail
      go_loopw [35] (fun i wr => ∃ (k : Nat) (A : Option Addr) (c : Nat), k ≤ l.length ∧ i = .int .i64 k ∧ (∀ j, j + 1 < k → sus r l j = false) ∧ Bk wr w2.heap.size 24 (rc r) ∧ Bk wr w3.heap.size 27 (wc A (pr r.w.toNat l k) c (fl r (pr r.w.toNat l k))) ∧ RdB wr A (pr r.w.toNat l k) ∧ Below w.heap.size w wr) (fun i _ => l.length - (intOf i).toNat)
      case atStart =>
        refine ⟨0, none, 0, by omega, rfl, fun j hj => by omega, by (repeat (first | with_reducible assumption | ((with_reducible refine Mw.Bk.new' ?_); (first | rfl | (simp; done) | (simp; omega))) | with_reducible refine Mw.Bk.alloc ?_ _ | with_reducible refine Mw.Bk.drew ?_ | with_reducible refine Mw.Bk.drewN ?_ _ | with_reducible refine Mw.Bk.set4 (a0 := .int .u32 0) (a1 := .int .u32 0) (a2 := .int .u32 0) (a3 := .int .u32 0) ?_ | ((with_reducible refine Mw.Bk.far ?_ ?_ _); rotate_left 1; focus (first | omega | (simp; done) | (simp; omega))) | with_reducible refine Mw.Bk.old ?_ (by assumption))), ?_, by rw [Hp0.out]; exact RdB.nil _ _, by (repeat (first | with_reducible exact Below.refl _ _ | with_reducible refine bl_drewN ?_ _ | with_reducible refine Below.drew ?_ | with_reducible refine bl_alloc ?_ _ | with_reducible refine Below.alloc ?_ (by first | omega | (simp; done) | (simp; omega)) _ | with_reducible refine Below.setCell ?_ (by first | omega | (simp; done) | (simp; omega)) _ | with_reducible assumption))⟩
        rw [Hp0.out, Hf0.out]
        exact Bk.new' rfl
      case round =>
        clear hB3 hc3
        obtain ⟨k, A8, c8, hk, rfl, hok, hB, hW, hr8, hb⟩ := hrel
        have Hok := Lib.hid hok
        clear hok
        obtain ⟨⟨k0, k1, k2, k3⟩, -⟩ := bk4 hB
        have hz := hW.lt
        have hzb := hB.lt
        by_cases hlt : k < l.length
        · obtain ⟨b, off, rfl, hbl, hcl⟩ := (HR.out.old hb) k hlt
          have hlen8 := pr_len r.w.toNat l k (by omega)
          have Hl8 := Lib.hid hlen8
          clear hlen8
          cases hf : fl r (pr r.w.toNat l k)
          · have Hok' : Hid (∀ j, j < k → sus r l j = false) := fun j hj => by
              by_cases e : j + 1 = k
              · subst e; exact hf
              · exact Hok.out j (by omega)
            rw [hf] at hW
            clear hf
            obtain ⟨⟨j0, j1⟩, f0, f1⟩ := bk2 hW
            go_wp2_with fail
            refine (step_pr r l k A8 c8 Hck.out hlt Hok'.out _ hr8).mono ?_
            rintro e w4 ⟨A9, c9, rfl, hr9, ha9, hb4⟩
            have hB4 := hB.old hb4
            have hW4 := hW.old hb4
            have hc4 := bl_trans hb hb4
            have hs4 := hb4.size
            have Ha9 := Lib.hid ha9
            clear hb4 hB hW hb hr8 ha9 j0 j1 f0 f1 k0 k1 k2 k3 hcl
            obtain ⟨⟨j0, j1⟩, f0, f1⟩ := bk2 hW4
            obtain ⟨⟨k0, k1, k2, k3⟩, -⟩ := bk4 hB4
            have hz4 := hW4.lt
            have hz5 := hB4.lt
            go_wp2_with fail
            refine (valid_yes r _ A9 c9 (sus r l k) (vld_pr r l (k + 1) (sus r l k) Hck.out (by omega) rfl) _ (by rw [pr_len _ _ _ (by omega)]; omega) (hr9.alloc _)).mono ?_
            rintro e w5 ⟨rfl, hb5⟩
            have hB5 : Bk w5 w2.heap.size 24 (rc r) := Bk.old (by (repeat (first | with_reducible assumption | ((with_reducible refine Mw.Bk.new' ?_); (first | rfl | (simp; done) | (simp; omega))) | with_reducible refine Mw.Bk.alloc ?_ _ | with_reducible refine Mw.Bk.drew ?_ | with_reducible refine Mw.Bk.drewN ?_ _ | with_reducible refine Mw.Bk.set4 (a0 := .int .u32 0) (a1 := .int .u32 0) (a2 := .int .u32 0) (a3 := .int .u32 0) ?_ | ((with_reducible refine Mw.Bk.far ?_ ?_ _); rotate_left 1; focus (first | omega | (simp; done) | (simp; omega))) | with_reducible refine Mw.Bk.old ?_ (by assumption)))) hb5
            have hW5 : Bk w5 w3.heap.size 27 (wc A8 (pr r.w.toNat l k) c8 false) := Bk.old (by (repeat (first | with_reducible assumption | ((with_reducible refine Mw.Bk.new' ?_); (first | rfl | (simp; done) | (simp; omega))) | with_reducible refine Mw.Bk.alloc ?_ _ | with_reducible refine Mw.Bk.drew ?_ | with_reducible refine Mw.Bk.drewN ?_ _ | with_reducible refine Mw.Bk.set4 (a0 := .int .u32 0) (a1 := .int .u32 0) (a2 := .int .u32 0) (a3 := .int .u32 0) ?_ | ((with_reducible refine Mw.Bk.far ?_ ?_ _); rotate_left 1; focus (first | omega | (simp; done) | (simp; omega))) | with_reducible refine Mw.Bk.old ?_ (by assumption)))) hb5
            have hX5 : Bk w5 w4.heap.size 27 (wc A9 (pr r.w.toNat l (k + 1)) c9 (sus r l k)) := Bk.old (by (repeat (first | with_reducible assumption | ((with_reducible refine Mw.Bk.new' ?_); (first | rfl | (simp; done) | (simp; omega))) | with_reducible refine Mw.Bk.alloc ?_ _ | with_reducible refine Mw.Bk.drew ?_ | with_reducible refine Mw.Bk.drewN ?_ _ | with_reducible refine Mw.Bk.set4 (a0 := .int .u32 0) (a1 := .int .u32 0) (a2 := .int .u32 0) (a3 := .int .u32 0) ?_ | ((with_reducible refine Mw.Bk.far ?_ ?_ _); rotate_left 1; focus (first | omega | (simp; done) | (simp; omega))) | with_reducible refine Mw.Bk.old ?_ (by assumption)))) hb5
            have hr5 := (hr9.alloc (.cells (wc A9 (pr r.w.toNat l (k + 1)) c9 (sus r l k)) 27)).old hb5
            have hc5 : Below w.heap.size w w5 := bl_trans (by (repeat (first | with_reducible exact Below.refl _ _ | with_reducible refine bl_drewN ?_ _ | with_reducible refine Below.drew ?_ | with_reducible refine bl_alloc ?_ _ | with_reducible refine Below.alloc ?_ (by first | omega | (simp; done) | (simp; omega)) _ | with_reducible refine Below.setCell ?_ (by first | omega | (simp; done) | (simp; omega)) _ | with_reducible assumption))) hb5
            clear hb5 hB4 hW4 hc4 j0 j1 f0 f1 k0 k1 k2 k3 hr9
            obtain ⟨⟨j0, j1⟩, f0, f1⟩ := bk2 hW5
            obtain ⟨⟨x0, x1⟩, g0, g1⟩ := bk2 hX5
            obtain ⟨⟨k0, k1, k2, k3⟩, -⟩ := bk4 hB5
            have hl9 := pr_len r.w.toNat l (k + 1) (by omega)
            have hla := pr_last r.w.toNat l k (by omega) hlt
            obtain ⟨b9, o9, rfl, hb9, hc9⟩ := hr5 ((pr r.w.toNat l (k + 1)).length - 1) (by omega)
            rw [hla] at hc9
            have hp9 : 1 ≤ (pr r.w.toNat l (k + 1)).length := by omega
            have hp8 : (pr r.w.toNat l (k + 1)).length ≤ 20 := by omega
            have htri : (r.w < (k : Int) + 1 ∧ ((((pr r.w.toNat l (k + 1)).length : Nat) : Int) != r.w) = false) ∨ (r.w ≤ (k : Int) + 1 ∧ (k : Int) + 1 ≤ r.w ∧ ((((pr r.w.toNat l (k + 1)).length : Nat) : Int) != r.w) = false ∧ ((((pr r.w.toNat l (k + 1)).length : Nat) : Int) != (k : Int) + 1) = false) ∨ ((k : Int) + 1 < r.w ∧ ((((pr r.w.toNat l (k + 1)).length : Nat) : Int) != (k : Int) + 1) = false) := by
              simp only [bne_eq_false_iff_eq]
              omega
            clear hl9 hla
            rcases htri with ⟨m1, m2⟩ | ⟨m1, m2, m3, m4⟩ | ⟨m1, m2⟩
            all_goals
              go_wp2_with fail
              go_roundw
              case rel =>
                refine ⟨k + 1, some ⟨b9, o9, none⟩, c9, by omega, by go_num, fun j hj => Hok'.out j (by omega), by (repeat (first | with_reducible assumption | ((with_reducible refine Mw.Bk.new' ?_); (first | rfl | (simp; done) | (simp; omega))) | with_reducible refine Mw.Bk.alloc ?_ _ | with_reducible refine Mw.Bk.drew ?_ | with_reducible refine Mw.Bk.drewN ?_ _ | with_reducible refine Mw.Bk.set4 (a0 := .int .u32 0) (a1 := .int .u32 0) (a2 := .int .u32 0) (a3 := .int .u32 0) ?_ | ((with_reducible refine Mw.Bk.far ?_ ?_ _); rotate_left 1; focus (first | omega | (simp; done) | (simp; omega))) | with_reducible refine Mw.Bk.old ?_ (by assumption))), ?_, ?_, by (repeat (first | with_reducible exact Below.refl _ _ | with_reducible refine bl_drewN ?_ _ | with_reducible refine Below.drew ?_ | with_reducible refine bl_alloc ?_ _ | with_reducible refine Below.alloc ?_ (by first | omega | (simp; done) | (simp; omega)) _ | with_reducible refine Below.setCell ?_ (by first | omega | (simp; done) | (simp; omega)) _ | with_reducible assumption))⟩
                · exact (hW5.set 0 (.slice (some ⟨b9, o9, none⟩) (pr r.w.toNat l (k + 1)).length c9)).set 1 (.bool (sus r l k))
                · have hA : Away w3.heap.size (some ⟨b9, o9, none⟩) := Away.some (by have := (Ha9.out ⟨b9, o9, none⟩ rfl).1; simp only at this ⊢; omega)
                  exact (hr5.far (p := ⟨w3.heap.size, 0, none⟩) hA _).far (p := ⟨w3.heap.size, 1, none⟩) hA _
              case measure => simp [intOf]; omega
          · have hk1 : 1 ≤ k := by
              rcases Nat.eq_zero_or_pos k with h | h
              · subst h; rw [Hp0.out, Hf0.out] at hf; cases hf
              · omega
            have hSk : S = (k : Int) - 1 := by
              rw [HS.out, runS_at r l (k - 1) (by omega) (by unfold sus; rw [show k - 1 + 1 = k by omega]; exact hf) (fun j hj => Hok.out j (by omega))]
              omega
            have hSq : (S == (k : Int) - 1) = true := by simpa using hSk
            have Hv := Lib.hid (vld_pr r l k true Hck.out (by omega) hf.symm)
            rw [hf] at hW
            clear hf hSk
            obtain ⟨⟨j0, j1⟩, f0, f1⟩ := bk2 hW
            go_wp2_with fail
            refine (step_sus r _ A8 c8 (bi l k) Hv.out _ (by rw [Hl8.out]; omega) hr8).mono ?_
            rintro e w4 ⟨rfl, hb4⟩
            have hW4 := hW.old hb4
            have hc4 := bl_trans hb hb4
            have hz4 := hW4.lt
            clear hb4 hB hW hb hr8 j0 j1 f0 f1 k0 k1 k2 k3 hcl
            obtain ⟨⟨j0, j1⟩, f0, f1⟩ := bk2 hW4
            go_wp2_with fail
            refine (sane_any _).mono ?_
            rintro e w5 ⟨rfl, hb5⟩
            go_wp2_with fail
            go_ret
            exact ⟨rfl, bl_trans (by (repeat (first | with_reducible exact Below.refl _ _ | with_reducible refine bl_drewN ?_ _ | with_reducible refine Below.drew ?_ | with_reducible refine bl_alloc ?_ _ | with_reducible refine Below.alloc ?_ (by first | omega | (simp; done) | (simp; omega)) _ | with_reducible refine Below.setCell ?_ (by first | omega | (simp; done) | (simp; omega)) _ | with_reducible assumption))) hb5⟩
        · obtain rfl : k = l.length := by omega
          cases hf : fl r (pr r.w.toNat l l.length)
          · have hS1 : S = -1 := by
              rw [HS.out]
              refine runS_none r l (fun j hj => ?_)
              by_cases e : j + 1 = l.length
              · unfold sus; rw [e]; exact hf
              · exact Hok.out j (by omega)
            subst hS1
            rw [hf] at hW
            clear hf
            obtain ⟨⟨j0, j1⟩, f0, f1⟩ := bk2 hW
            have hcase : ((-1 : Int) == (l.length : Int) - 1) = false ∨ ((-1 : Int) == (l.length : Int) - 1) = true := by cases ((-1 : Int) == (l.length : Int) - 1) <;> simp
            rcases hcase with hc0 | hc0
            all_goals
              go_wp2_with fail
              refine (sane_any _).mono ?_
              rintro e w5 ⟨rfl, hb5⟩
              go_wp2_with fail
              go_ret
              exact ⟨rfl, bl_trans hb hb5⟩
          · have hk1 : 1 ≤ l.length := by
              rcases Nat.eq_zero_or_pos l.length with h | h
              · rw [h, Hp0.out, Hf0.out] at hf; cases hf
              · omega
            have hSk : S = (l.length : Int) - 1 := by
              rw [HS.out, runS_at r l (l.length - 1) (by omega) (by unfold sus; rw [show l.length - 1 + 1 = l.length by omega]; exact hf) (fun j hj => Hok.out j (by omega))]
              omega
            have hSq : (S == (l.length : Int) - 1) = true := by simpa using hSk
            rw [hf] at hW
            clear hf hSk
            obtain ⟨⟨j0, j1⟩, f0, f1⟩ := bk2 hW
            go_wp2_with fail
            refine (sane_any _).mono ?_
            rintro e w5 ⟨rfl, hb5⟩
            go_wp2_with fail
            go_ret
            exact ⟨rfl, bl_trans hb hb5⟩
    · have h60' : decide (60 < (l.length : Int)) = true := decide_eq_true (by omega)
      go_enter Try.func7, Try.ntmps7
      go_wp2_with (go_at_call 8; refine (light_any t A c _).mono ?_; rintro e w' ⟨rfl, rfl⟩)
      refine (sane_any _).mono ?_
      rintro e w5 ⟨rfl, hb5⟩
      go_wp2_with fail
      go_ret
      exact ⟨rfl, hb5⟩
  · have h6' : decide (t.length ≤ 600) = false := decide_eq_false h6
    go_enter Try.func7, Try.ntmps7
    go_wp2_with (go_at_call 8; refine (light_any t A c _).mono ?_; rintro e w' ⟨rfl, rfl⟩)
    refine (sane_any _).mono ?_
    rintro e w5 ⟨rfl, hb5⟩
    go_wp2_with fail
    go_ret
    exact ⟨rfl, hb5⟩
end Go.Proofs.Ytpgkiiaoddhdcaa.Mo
