/- Walks: consistency of the program and proof of the reference. -/
import Derived.Test.YtdikoffppjoomaaGreatRD
import Derived.Test.YtdikoffppjoomaaGreatRN
import Derived.WalkKit
import Derived.WalkSpells
import Derived.WalkLawsBesides
import Derived.Deep.QuietTactic
import Derived.BigQuiet
import Derived.Deep.Draws
import Derived.Deep.AppendLies
import Derived.Laws.OwnMore
import Derived.Laws.BytesArg
import Derived.Lib.Hide
import Derived.Deep.LoopGhost
import Derived.Deep.RegionWith
import Derived.RegionTactic
import Derived.Deep.DeepCutAuto
import Derived.Deep.RegionLaw
namespace Go.Proofs.YtdikoffppjoomaaGreat.Tr
open Go.RowKit Go.Proofs.YtdikoffppjoomaaGreat.Dg
open Go.Proofs.YtdikoffppjoomaaGreat.Mw (I64 ret_int ret_bool Bk bl_trans own_ints)
set_option linter.unusedVariables false
set_option linter.unusedSimpArgs false
set_option maxRecDepth 100000

set_option maxHeartbeats 2000000 in
theorem pcons_ind (m : Nat) : ∀ (l : List St) (A : Option Addr) (c i : Nat) (bg : Bool) (w : World), l.length ≤ m → 1 ≤ i → i ≤ l.length → l.length ≤ 1000000 → l.length ≤ c → c ≤ maxLen → RdD w A l →
    Calls Tryz.prog 108 #[.slice A l.length c, .int .i64 (i : Int), .bool bg] w (OD w (cons l i bg)) := by
  induction m with
  | zero => intro l A c i bg w hm h1 h2; omega
  | succ m ih =>
    intro l A c i bg w hm h1 hil hl hlc hcm hr
    by_cases h11 : i = l.length
    · have n0 : ((i : Int) == (l.length : Int)) = true := beq_iff_eq.2 (by omega)
      cases bg with
      | true =>
        have He := Lib.hid (cons_t l i h11)
        clear ih hr
        go_enter Tryz.func108, Tryz.ntmps108
        go_wp2_with fail
        go_ret
        exact ⟨_, rfl, by rw [He.out]; exact World.ownsRow_nil _ _ _ _, Below.refl _ _⟩
      | false =>
        have He := Lib.hid (cons_f l i h11)
        have HR := Lib.hid (proot_ind _ l A c w (Nat.le_refl _) hl hlc hcm hr)
        clear ih hr
        go_enter Tryz.func108, Tryz.ntmps108
        go_wp2_with fail
        refine HR.out.mono ?_
        rintro e w1 ⟨rfl, hb1⟩
        have hs1 := hb1.size
        clear HR
        go_wp2_with fail
        go_ret
        refine ⟨_, rfl, ?_, by (repeat (first | with_reducible exact Below.refl _ _ | with_reducible refine bl_drewN ?_ _ | with_reducible refine Below.drew ?_ | with_reducible refine bl_alloc ?_ _ | with_reducible refine Below.alloc ?_ (by first | omega | (simp; done) | (simp; omega)) _ | with_reducible refine Below.setCell ?_ (by first | omega | (simp; done) | (simp; omega)) _ | with_reducible assumption))⟩
        rw [He.out]
        exact World.ownsRow_lit w1 (dl (root l)).toArray 1 hs1 (by simp [maxLen]) rfl
    have n1 : ((i : Int) == (l.length : Int)) = false := beq_eq_false_iff_ne.2 (by omega)
    have h4 := spl_pos (n := l.length) (by omega)
    have h5 := spl_lt (n := l.length) (by omega)
    obtain ⟨b, off, rfl, hbl, -⟩ := hr 0 (by omega)
    obtain ⟨K, hK⟩ : ∃ K, K = spl l.length := ⟨_, rfl⟩
    have HS := Lib.hid (show Calls Tryz.prog 90 #[.int .i64 (l.length : Int)] w fun e w' => e = .returned (.int .i64 (K : Int)) ∧ w = w' by
      have h6 := split_any (l.length : Int) (I64n _ (by omega)) w
      rw [splI_nat, ← hK] at h6
      exact h6)
    rw [← hK] at h4 h5
    have hlt : (l.take K).length = K := by simp; omega
    have hld : (l.drop K).length = l.length - K := by simp
    have hck : ¬ c = K := by omega
    have hk0 : (0 : Int) ≤ (K : Int) := by omega
    have hk1 : (K : Int) ≤ (l.length : Int) := by omega
    have hk2 : (K : Int) ≤ (c : Int) := by omega
    have hk3 : (l.length : Int) ≤ (c : Int) := by omega
    by_cases hik : i ≤ K
    · have hpl := cons_l l i bg h11 (by omega) (by rw [← hK]; exact hik)
      rw [← hK] at hpl
      have HR := Lib.hid (show ∀ W : World, Below w.heap.size w W → Calls Tryz.prog 49 #[.slice (some ⟨b, off + K * 4, none⟩) (l.length - K) (c - K)] W fun e w' => e = .returned (dv (root (l.drop K))) ∧ Below W.heap.size W w' ∧ Below w.heap.size w w' from fun W hW => by
        have h6 := proot_ind _ (l.drop K) (some ⟨b, off + K * 4, none⟩) (c - K) W (Nat.le_refl _) (by omega) (by omega) (by omega) ((hr.old hW).drop K)
        rw [hld] at h6
        exact h6.mono (fun e w' hh => ⟨hh.1, hh.2, bl_trans hW hh.2⟩))
      have HP := Lib.hid (show ∀ W : World, Below w.heap.size w W → Calls Tryz.prog 108 #[.slice (some ⟨b, off, none⟩) K c, .int .i64 (i : Int), .bool bg] W fun e w' => ∃ v, e = .returned v ∧ w'.ownsRow w.heap.size 35 4 v (cons (l.take K) i bg).length ((cons (l.take K) i bg).flatMap dl) ∧ Below W.heap.size W w' ∧ Below w.heap.size w w' from fun W hW => by
        have h6 := ih (l.take K) (some ⟨b, off, none⟩) c i bg W (by omega) (by omega) (by omega) (by omega) (by omega) hcm ((hr.old hW).take K)
        rw [hlt] at h6
        exact h6.mono (fun e w' hh => by obtain ⟨v, e1, e2, e3⟩ := hh; exact ⟨v, e1, own_low e2 hW.size, e3, bl_trans hW e3⟩))
      have hPl := cons_len 20 (l.take K) i bg (by omega)
      have He := Lib.hid hpl
      generalize cons (l.take K) i bg = P at HP hPl He
      generalize root (l.drop K) = R at HR He
      have t1 : decide ((i : Int) ≤ (K : Int)) = true := decide_eq_true (by omega)
      clear hpl hK
      obtain ⟨i0, hi0, hz0, hz1, hz2⟩ := info_parts infoDig
      unfold maxLen at hcm
      clear ih hr hlt hld
      go_enter Tryz.func108, Tryz.ntmps108
      go_wp2_with fail
      refine HS.out.mono ?_
      rintro e w0 ⟨rfl, rfl⟩
      clear HS
      go_wp2_with fail
      go_region_law (first
        | (refine step_append_lies _ (by rfl) (.tmp 27) (.tmp 32) 47 (by rfl) w.heap.size 35 i0 (dv (0, 0, 0, 0)) 4 16 Tryz.underlying47 hi0 hz0 hz1 hz2 rfl (by decide) v P.length (P.flatMap dl) (by rfl) (by first | exact hownr.alloc _ | exact hownr.drew.alloc _ | exact hown.alloc _ | exact hown | exact hown.drew) _ 1 1 (dl R) (by rfl) rfl (by refine news_dig (T := 35) R ?_; first | (((repeat (first | ((with_reducible refine Mw.Bk.new' ?_); (first | rfl | (simp; done) | (simp; omega))) | with_reducible refine Mw.Bk.alloc ?_ _ | with_reducible refine Mw.Bk.drewN ?_ _ | with_reducible refine Mw.Bk.drew ?_ | with_reducible assumption))); done) | (refine Mw.Bk.old ?_ hbp; ((repeat (first | ((with_reducible refine Mw.Bk.new' ?_); (first | rfl | (simp; done) | (simp; omega))) | with_reducible refine Mw.Bk.alloc ?_ _ | with_reducible refine Mw.Bk.drewN ?_ _ | with_reducible refine Mw.Bk.drew ?_ | with_reducible assumption))); done)) (one_dig R) (by decide) (by simp only [maxLen]; omega) (by omega) (by exact (show Below w.heap.size w _ by (repeat (first | with_reducible exact Below.refl _ _ | with_reducible refine bl_drewN ?_ _ | with_reducible refine Below.drew ?_ | with_reducible refine bl_alloc ?_ _ | with_reducible refine Below.alloc ?_ (by first | omega | (simp; done) | (simp; omega)) _ | with_reducible refine Below.setCell ?_ (by first | omega | (simp; done) | (simp; omega)) _ | with_reducible assumption))).size) _ rfl ?_
           intro g9 cap9 w9 hown9 hgrow9 hat9 hlt9
           have hC9 : Below w.heap.size w w9 := Below.grown (by (repeat (first | with_reducible exact Below.refl _ _ | with_reducible refine bl_drewN ?_ _ | with_reducible refine Below.drew ?_ | with_reducible refine bl_alloc ?_ _ | with_reducible refine Below.alloc ?_ (by first | omega | (simp; done) | (simp; omega)) _ | with_reducible refine Below.setCell ?_ (by first | omega | (simp; done) | (simp; omega)) _ | with_reducible assumption))) hgrow9 (show Below w.heap.size w _ by (repeat (first | with_reducible exact Below.refl _ _ | with_reducible refine bl_drewN ?_ _ | with_reducible refine Below.drew ?_ | with_reducible refine bl_alloc ?_ _ | with_reducible refine Below.alloc ?_ (by first | omega | (simp; done) | (simp; omega)) _ | with_reducible refine Below.setCell ?_ (by first | omega | (simp; done) | (simp; omega)) _ | with_reducible assumption))).size (fun k hk => (hown.lt k hk).1))
        | (go_simp; go_at_call 108; (with_reducible refine (HP.out _ (by (repeat (first | with_reducible exact Below.refl _ _ | with_reducible refine bl_drewN ?_ _ | with_reducible refine Below.drew ?_ | with_reducible refine bl_alloc ?_ _ | with_reducible refine Below.alloc ?_ (by first | omega | (simp; done) | (simp; omega)) _ | with_reducible refine Below.setCell ?_ (by first | omega | (simp; done) | (simp; omega)) _ | with_reducible assumption)))).mono ?_); rintro e wp ⟨v, rfl, hown, hbp, hCp⟩)
        | (go_simp; go_at_call 49; (with_reducible refine (HR.out _ (by (repeat (first | with_reducible exact Below.refl _ _ | with_reducible refine bl_drewN ?_ _ | with_reducible refine Below.drew ?_ | with_reducible refine bl_alloc ?_ _ | with_reducible refine Below.alloc ?_ (by first | omega | (simp; done) | (simp; omega)) _ | with_reducible refine Below.setCell ?_ (by first | omega | (simp; done) | (simp; omega)) _ | with_reducible assumption)))).mono ?_); rintro e wr ⟨rfl, hbr, hCr⟩; (try have hownr := own_below hown hbr)))
      all_goals
        go_wp2_with fail
        go_ret
        exact ⟨_, rfl, by rw [He.out]; exact own_snoc hown9, hC9⟩
    · have hpl := cons_r l i bg h11 (by omega) (by rw [← hK]; exact hik)
      rw [← hK] at hpl
      have HR := Lib.hid (show ∀ W : World, Below w.heap.size w W → Calls Tryz.prog 49 #[.slice (some ⟨b, off, none⟩) K c] W fun e w' => e = .returned (dv (root (l.take K))) ∧ Below W.heap.size W w' ∧ Below w.heap.size w w' from fun W hW => by
        have h6 := proot_ind _ (l.take K) (some ⟨b, off, none⟩) c W (Nat.le_refl _) (by omega) (by omega) hcm ((hr.old hW).take K)
        rw [hlt] at h6
        exact h6.mono (fun e w' hh => ⟨hh.1, hh.2, bl_trans hW hh.2⟩))
      have HP := Lib.hid (show ∀ W : World, Below w.heap.size w W → Calls Tryz.prog 108 #[.slice (some ⟨b, off + K * 4, none⟩) (l.length - K) (c - K), .int .i64 (IntKind.i64.wrap ((i : Int) - (K : Int))), .bool false] W fun e w' => ∃ v, e = .returned v ∧ w'.ownsRow w.heap.size 35 4 v (cons (l.drop K) (i - K) false).length ((cons (l.drop K) (i - K) false).flatMap dl) ∧ Below W.heap.size W w' ∧ Below w.heap.size w w' from fun W hW => by
        have h6 := ih (l.drop K) (some ⟨b, off + K * 4, none⟩) (c - K) (i - K) false W (by omega) (by omega) (by omega) (by omega) (by omega) (by omega) ((hr.old hW).drop K)
        rw [hld, show (((i - K : Nat) : Int)) = IntKind.i64.wrap ((i : Int) - (K : Int)) by rw [IntWalk.i64_in _ (by omega)]; omega] at h6
        exact h6.mono (fun e w' hh => by obtain ⟨v, e1, e2, e3⟩ := hh; exact ⟨v, e1, own_low e2 hW.size, e3, bl_trans hW e3⟩))
      have hPl := cons_len 20 (l.drop K) (i - K) false (by omega)
      have He := Lib.hid hpl
      generalize cons (l.drop K) (i - K) false = P at HP hPl He
      generalize root (l.take K) = R at HR He
      have t1 : decide ((i : Int) ≤ (K : Int)) = false := decide_eq_false (by omega)
      clear hpl hK
      obtain ⟨i0, hi0, hz0, hz1, hz2⟩ := info_parts infoDig
      unfold maxLen at hcm
      clear ih hr hlt hld
      go_enter Tryz.func108, Tryz.ntmps108
      go_wp2_with fail
      refine HS.out.mono ?_
      rintro e w0 ⟨rfl, rfl⟩
      clear HS
      go_wp2_with fail
      go_region_law (first
        | (refine step_append_lies _ (by rfl) (.tmp 40) (.tmp 45) 47 (by rfl) w.heap.size 35 i0 (dv (0, 0, 0, 0)) 4 16 Tryz.underlying47 hi0 hz0 hz1 hz2 rfl (by decide) v P.length (P.flatMap dl) (by rfl) (by first | exact hownr.alloc _ | exact hownr.drew.alloc _ | exact hown.alloc _ | exact hown | exact hown.drew) _ 1 1 (dl R) (by rfl) rfl (by refine news_dig (T := 35) R ?_; first | (((repeat (first | ((with_reducible refine Mw.Bk.new' ?_); (first | rfl | (simp; done) | (simp; omega))) | with_reducible refine Mw.Bk.alloc ?_ _ | with_reducible refine Mw.Bk.drewN ?_ _ | with_reducible refine Mw.Bk.drew ?_ | with_reducible assumption))); done) | (refine Mw.Bk.old ?_ hbp; ((repeat (first | ((with_reducible refine Mw.Bk.new' ?_); (first | rfl | (simp; done) | (simp; omega))) | with_reducible refine Mw.Bk.alloc ?_ _ | with_reducible refine Mw.Bk.drewN ?_ _ | with_reducible refine Mw.Bk.drew ?_ | with_reducible assumption))); done)) (one_dig R) (by decide) (by simp only [maxLen]; omega) (by omega) (by exact (show Below w.heap.size w _ by (repeat (first | with_reducible exact Below.refl _ _ | with_reducible refine bl_drewN ?_ _ | with_reducible refine Below.drew ?_ | with_reducible refine bl_alloc ?_ _ | with_reducible refine Below.alloc ?_ (by first | omega | (simp; done) | (simp; omega)) _ | with_reducible refine Below.setCell ?_ (by first | omega | (simp; done) | (simp; omega)) _ | with_reducible assumption))).size) _ rfl ?_
           intro g9 cap9 w9 hown9 hgrow9 hat9 hlt9
           have hC9 : Below w.heap.size w w9 := Below.grown (by (repeat (first | with_reducible exact Below.refl _ _ | with_reducible refine bl_drewN ?_ _ | with_reducible refine Below.drew ?_ | with_reducible refine bl_alloc ?_ _ | with_reducible refine Below.alloc ?_ (by first | omega | (simp; done) | (simp; omega)) _ | with_reducible refine Below.setCell ?_ (by first | omega | (simp; done) | (simp; omega)) _ | with_reducible assumption))) hgrow9 (show Below w.heap.size w _ by (repeat (first | with_reducible exact Below.refl _ _ | with_reducible refine bl_drewN ?_ _ | with_reducible refine Below.drew ?_ | with_reducible refine bl_alloc ?_ _ | with_reducible refine Below.alloc ?_ (by first | omega | (simp; done) | (simp; omega)) _ | with_reducible refine Below.setCell ?_ (by first | omega | (simp; done) | (simp; omega)) _ | with_reducible assumption))).size (fun k hk => (hown.lt k hk).1))
        | (go_simp; go_at_call 108; (with_reducible refine (HP.out _ (by (repeat (first | with_reducible exact Below.refl _ _ | with_reducible refine bl_drewN ?_ _ | with_reducible refine Below.drew ?_ | with_reducible refine bl_alloc ?_ _ | with_reducible refine Below.alloc ?_ (by first | omega | (simp; done) | (simp; omega)) _ | with_reducible refine Below.setCell ?_ (by first | omega | (simp; done) | (simp; omega)) _ | with_reducible assumption)))).mono ?_); rintro e wp ⟨v, rfl, hown, hbp, hCp⟩)
        | (go_simp; go_at_call 49; (with_reducible refine (HR.out _ (by (repeat (first | with_reducible exact Below.refl _ _ | with_reducible refine bl_drewN ?_ _ | with_reducible refine Below.drew ?_ | with_reducible refine bl_alloc ?_ _ | with_reducible refine Below.alloc ?_ (by first | omega | (simp; done) | (simp; omega)) _ | with_reducible refine Below.setCell ?_ (by first | omega | (simp; done) | (simp; omega)) _ | with_reducible assumption)))).mono ?_); rintro e wr ⟨rfl, hbr, hCr⟩; (try have hownr := own_below hown hbr)))
      all_goals
        go_wp2_with fail
        go_ret
        exact ⟨_, rfl, by rw [He.out]; exact own_snoc hown9, hC9⟩

set_option maxHeartbeats 2000000 in
theorem rcons_ind (m : Nat) : ∀ (l : List St) (A : Option Addr) (c i : Nat) (bg : Bool) (w : World), l.length ≤ m → 1 ≤ i → i ≤ l.length → l.length ≤ 1000000 → l.length ≤ c → c ≤ maxLen → RdD w A l →
    Calls Tryz.prog 109 #[.slice A l.length c, .int .i64 (i : Int), .bool bg] w (OD w (cons l i bg)) := by
  induction m with
  | zero => intro l A c i bg w hm h1 h2; omega
  | succ m ih =>
    intro l A c i bg w hm h1 hil hl hlc hcm hr
    by_cases h11 : i = l.length
    · have n0 : ((i : Int) == (l.length : Int)) = true := beq_iff_eq.2 (by omega)
      cases bg with
      | true =>
        have He := Lib.hid (cons_t l i h11)
        clear ih hr
        go_enter Tryz.func109, Tryz.ntmps109
        go_wp2_with fail
        go_ret
        exact ⟨_, rfl, by rw [He.out]; exact World.ownsRow_nil _ _ _ _, Below.refl _ _⟩
      | false =>
        have He := Lib.hid (cons_f l i h11)
        have HR := Lib.hid (rroot_ind _ l A c w (Nat.le_refl _) hl hlc hcm hr)
        clear ih hr
        go_enter Tryz.func109, Tryz.ntmps109
        go_wp2_with fail
        refine HR.out.mono ?_
        rintro e w1 ⟨rfl, hb1⟩
        have hs1 := hb1.size
        clear HR
        go_wp2_with fail
        go_ret
        refine ⟨_, rfl, ?_, by (repeat (first | with_reducible exact Below.refl _ _ | with_reducible refine bl_drewN ?_ _ | with_reducible refine Below.drew ?_ | with_reducible refine bl_alloc ?_ _ | with_reducible refine Below.alloc ?_ (by first | omega | (simp; done) | (simp; omega)) _ | with_reducible refine Below.setCell ?_ (by first | omega | (simp; done) | (simp; omega)) _ | with_reducible assumption))⟩
        rw [He.out]
        exact World.ownsRow_lit w1 (dl (root l)).toArray 1 hs1 (by simp [maxLen]) rfl
    have n1 : ((i : Int) == (l.length : Int)) = false := beq_eq_false_iff_ne.2 (by omega)
    have h4 := spl_pos (n := l.length) (by omega)
    have h5 := spl_lt (n := l.length) (by omega)
    obtain ⟨b, off, rfl, hbl, -⟩ := hr 0 (by omega)
    obtain ⟨K, hK⟩ : ∃ K, K = spl l.length := ⟨_, rfl⟩
    have HS := Lib.hid (show Calls Tryz.prog 97 #[.int .i64 (l.length : Int)] w fun e w' => e = .returned (.int .i64 (K : Int)) ∧ w = w' by
      have h6 := rsplit_any (l.length : Int) (I64n _ (by omega)) w
      rw [splI_nat, ← hK] at h6
      exact h6)
    rw [← hK] at h4 h5
    have hlt : (l.take K).length = K := by simp; omega
    have hld : (l.drop K).length = l.length - K := by simp
    have hck : ¬ c = K := by omega
    have hk0 : (0 : Int) ≤ (K : Int) := by omega
    have hk1 : (K : Int) ≤ (l.length : Int) := by omega
    have hk2 : (K : Int) ≤ (c : Int) := by omega
    have hk3 : (l.length : Int) ≤ (c : Int) := by omega
    by_cases hik : i ≤ K
    · have hpl := cons_l l i bg h11 (by omega) (by rw [← hK]; exact hik)
      rw [← hK] at hpl
      have HR := Lib.hid (show ∀ W : World, Below w.heap.size w W → Calls Tryz.prog 74 #[.slice (some ⟨b, off + K * 4, none⟩) (l.length - K) (c - K)] W fun e w' => e = .returned (dv (root (l.drop K))) ∧ Below W.heap.size W w' ∧ Below w.heap.size w w' from fun W hW => by
        have h6 := rroot_ind _ (l.drop K) (some ⟨b, off + K * 4, none⟩) (c - K) W (Nat.le_refl _) (by omega) (by omega) (by omega) ((hr.old hW).drop K)
        rw [hld] at h6
        exact h6.mono (fun e w' hh => ⟨hh.1, hh.2, bl_trans hW hh.2⟩))
      have HP := Lib.hid (show ∀ W : World, Below w.heap.size w W → Calls Tryz.prog 109 #[.slice (some ⟨b, off, none⟩) K c, .int .i64 (i : Int), .bool bg] W fun e w' => ∃ v, e = .returned v ∧ w'.ownsRow w.heap.size 35 4 v (cons (l.take K) i bg).length ((cons (l.take K) i bg).flatMap dl) ∧ Below W.heap.size W w' ∧ Below w.heap.size w w' from fun W hW => by
        have h6 := ih (l.take K) (some ⟨b, off, none⟩) c i bg W (by omega) (by omega) (by omega) (by omega) (by omega) hcm ((hr.old hW).take K)
        rw [hlt] at h6
        exact h6.mono (fun e w' hh => by obtain ⟨v, e1, e2, e3⟩ := hh; exact ⟨v, e1, own_low e2 hW.size, e3, bl_trans hW e3⟩))
      have hPl := cons_len 20 (l.take K) i bg (by omega)
      have He := Lib.hid hpl
      generalize cons (l.take K) i bg = P at HP hPl He
      generalize root (l.drop K) = R at HR He
      have t1 : decide ((i : Int) ≤ (K : Int)) = true := decide_eq_true (by omega)
      clear hpl hK
      obtain ⟨i0, hi0, hz0, hz1, hz2⟩ := info_parts infoDig
      unfold maxLen at hcm
      clear ih hr hlt hld
      go_enter Tryz.func109, Tryz.ntmps109
      go_wp2_with fail
      refine HS.out.mono ?_
      rintro e w0 ⟨rfl, rfl⟩
      clear HS
      go_wp2_with fail
      go_region_law (first
        | (refine step_append_lies _ (by rfl) (.tmp 27) (.tmp 32) 47 (by rfl) w.heap.size 35 i0 (dv (0, 0, 0, 0)) 4 16 Tryz.underlying47 hi0 hz0 hz1 hz2 rfl (by decide) v P.length (P.flatMap dl) (by rfl) (by first | exact hownr.alloc _ | exact hownr.drew.alloc _ | exact hown.alloc _ | exact hown | exact hown.drew) _ 1 1 (dl R) (by rfl) rfl (by refine news_dig (T := 35) R ?_; first | (((repeat (first | ((with_reducible refine Mw.Bk.new' ?_); (first | rfl | (simp; done) | (simp; omega))) | with_reducible refine Mw.Bk.alloc ?_ _ | with_reducible refine Mw.Bk.drewN ?_ _ | with_reducible refine Mw.Bk.drew ?_ | with_reducible assumption))); done) | (refine Mw.Bk.old ?_ hbp; ((repeat (first | ((with_reducible refine Mw.Bk.new' ?_); (first | rfl | (simp; done) | (simp; omega))) | with_reducible refine Mw.Bk.alloc ?_ _ | with_reducible refine Mw.Bk.drewN ?_ _ | with_reducible refine Mw.Bk.drew ?_ | with_reducible assumption))); done)) (one_dig R) (by decide) (by simp only [maxLen]; omega) (by omega) (by exact (show Below w.heap.size w _ by (repeat (first | with_reducible exact Below.refl _ _ | with_reducible refine bl_drewN ?_ _ | with_reducible refine Below.drew ?_ | with_reducible refine bl_alloc ?_ _ | with_reducible refine Below.alloc ?_ (by first | omega | (simp; done) | (simp; omega)) _ | with_reducible refine Below.setCell ?_ (by first | omega | (simp; done) | (simp; omega)) _ | with_reducible assumption))).size) _ rfl ?_
           intro g9 cap9 w9 hown9 hgrow9 hat9 hlt9
           have hC9 : Below w.heap.size w w9 := Below.grown (by (repeat (first | with_reducible exact Below.refl _ _ | with_reducible refine bl_drewN ?_ _ | with_reducible refine Below.drew ?_ | with_reducible refine bl_alloc ?_ _ | with_reducible refine Below.alloc ?_ (by first | omega | (simp; done) | (simp; omega)) _ | with_reducible refine Below.setCell ?_ (by first | omega | (simp; done) | (simp; omega)) _ | with_reducible assumption))) hgrow9 (show Below w.heap.size w _ by (repeat (first | with_reducible exact Below.refl _ _ | with_reducible refine bl_drewN ?_ _ | with_reducible refine Below.drew ?_ | with_reducible refine bl_alloc ?_ _ | with_reducible refine Below.alloc ?_ (by first | omega | (simp; done) | (simp; omega)) _ | with_reducible refine Below.setCell ?_ (by first | omega | (simp; done) | (simp; omega)) _ | with_reducible assumption))).size (fun k hk => (hown.lt k hk).1))
        | (go_simp; go_at_call 109; (with_reducible refine (HP.out _ (by (repeat (first | with_reducible exact Below.refl _ _ | with_reducible refine bl_drewN ?_ _ | with_reducible refine Below.drew ?_ | with_reducible refine bl_alloc ?_ _ | with_reducible refine Below.alloc ?_ (by first | omega | (simp; done) | (simp; omega)) _ | with_reducible refine Below.setCell ?_ (by first | omega | (simp; done) | (simp; omega)) _ | with_reducible assumption)))).mono ?_); rintro e wp ⟨v, rfl, hown, hbp, hCp⟩)
        | (go_simp; go_at_call 74; (with_reducible refine (HR.out _ (by (repeat (first | with_reducible exact Below.refl _ _ | with_reducible refine bl_drewN ?_ _ | with_reducible refine Below.drew ?_ | with_reducible refine bl_alloc ?_ _ | with_reducible refine Below.alloc ?_ (by first | omega | (simp; done) | (simp; omega)) _ | with_reducible refine Below.setCell ?_ (by first | omega | (simp; done) | (simp; omega)) _ | with_reducible assumption)))).mono ?_); rintro e wr ⟨rfl, hbr, hCr⟩; (try have hownr := own_below hown hbr)))
      all_goals
        go_wp2_with fail
        go_ret
        exact ⟨_, rfl, by rw [He.out]; exact own_snoc hown9, hC9⟩
    · have hpl := cons_r l i bg h11 (by omega) (by rw [← hK]; exact hik)
      rw [← hK] at hpl
      have HR := Lib.hid (show ∀ W : World, Below w.heap.size w W → Calls Tryz.prog 74 #[.slice (some ⟨b, off, none⟩) K c] W fun e w' => e = .returned (dv (root (l.take K))) ∧ Below W.heap.size W w' ∧ Below w.heap.size w w' from fun W hW => by
        have h6 := rroot_ind _ (l.take K) (some ⟨b, off, none⟩) c W (Nat.le_refl _) (by omega) (by omega) hcm ((hr.old hW).take K)
        rw [hlt] at h6
        exact h6.mono (fun e w' hh => ⟨hh.1, hh.2, bl_trans hW hh.2⟩))
      have HP := Lib.hid (show ∀ W : World, Below w.heap.size w W → Calls Tryz.prog 109 #[.slice (some ⟨b, off + K * 4, none⟩) (l.length - K) (c - K), .int .i64 (IntKind.i64.wrap ((i : Int) - (K : Int))), .bool false] W fun e w' => ∃ v, e = .returned v ∧ w'.ownsRow w.heap.size 35 4 v (cons (l.drop K) (i - K) false).length ((cons (l.drop K) (i - K) false).flatMap dl) ∧ Below W.heap.size W w' ∧ Below w.heap.size w w' from fun W hW => by
        have h6 := ih (l.drop K) (some ⟨b, off + K * 4, none⟩) (c - K) (i - K) false W (by omega) (by omega) (by omega) (by omega) (by omega) (by omega) ((hr.old hW).drop K)
        rw [hld, show (((i - K : Nat) : Int)) = IntKind.i64.wrap ((i : Int) - (K : Int)) by rw [IntWalk.i64_in _ (by omega)]; omega] at h6
        exact h6.mono (fun e w' hh => by obtain ⟨v, e1, e2, e3⟩ := hh; exact ⟨v, e1, own_low e2 hW.size, e3, bl_trans hW e3⟩))
      have hPl := cons_len 20 (l.drop K) (i - K) false (by omega)
      have He := Lib.hid hpl
      generalize cons (l.drop K) (i - K) false = P at HP hPl He
      generalize root (l.take K) = R at HR He
      have t1 : decide ((i : Int) ≤ (K : Int)) = false := decide_eq_false (by omega)
      clear hpl hK
      obtain ⟨i0, hi0, hz0, hz1, hz2⟩ := info_parts infoDig
      unfold maxLen at hcm
      clear ih hr hlt hld
      go_enter Tryz.func109, Tryz.ntmps109
      go_wp2_with fail
      refine HS.out.mono ?_
      rintro e w0 ⟨rfl, rfl⟩
      clear HS
      go_wp2_with fail
      go_region_law (first
        | (refine step_append_lies _ (by rfl) (.tmp 40) (.tmp 45) 47 (by rfl) w.heap.size 35 i0 (dv (0, 0, 0, 0)) 4 16 Tryz.underlying47 hi0 hz0 hz1 hz2 rfl (by decide) v P.length (P.flatMap dl) (by rfl) (by first | exact hownr.alloc _ | exact hownr.drew.alloc _ | exact hown.alloc _ | exact hown | exact hown.drew) _ 1 1 (dl R) (by rfl) rfl (by refine news_dig (T := 35) R ?_; first | (((repeat (first | ((with_reducible refine Mw.Bk.new' ?_); (first | rfl | (simp; done) | (simp; omega))) | with_reducible refine Mw.Bk.alloc ?_ _ | with_reducible refine Mw.Bk.drewN ?_ _ | with_reducible refine Mw.Bk.drew ?_ | with_reducible assumption))); done) | (refine Mw.Bk.old ?_ hbp; ((repeat (first | ((with_reducible refine Mw.Bk.new' ?_); (first | rfl | (simp; done) | (simp; omega))) | with_reducible refine Mw.Bk.alloc ?_ _ | with_reducible refine Mw.Bk.drewN ?_ _ | with_reducible refine Mw.Bk.drew ?_ | with_reducible assumption))); done)) (one_dig R) (by decide) (by simp only [maxLen]; omega) (by omega) (by exact (show Below w.heap.size w _ by (repeat (first | with_reducible exact Below.refl _ _ | with_reducible refine bl_drewN ?_ _ | with_reducible refine Below.drew ?_ | with_reducible refine bl_alloc ?_ _ | with_reducible refine Below.alloc ?_ (by first | omega | (simp; done) | (simp; omega)) _ | with_reducible refine Below.setCell ?_ (by first | omega | (simp; done) | (simp; omega)) _ | with_reducible assumption))).size) _ rfl ?_
           intro g9 cap9 w9 hown9 hgrow9 hat9 hlt9
           have hC9 : Below w.heap.size w w9 := Below.grown (by (repeat (first | with_reducible exact Below.refl _ _ | with_reducible refine bl_drewN ?_ _ | with_reducible refine Below.drew ?_ | with_reducible refine bl_alloc ?_ _ | with_reducible refine Below.alloc ?_ (by first | omega | (simp; done) | (simp; omega)) _ | with_reducible refine Below.setCell ?_ (by first | omega | (simp; done) | (simp; omega)) _ | with_reducible assumption))) hgrow9 (show Below w.heap.size w _ by (repeat (first | with_reducible exact Below.refl _ _ | with_reducible refine bl_drewN ?_ _ | with_reducible refine Below.drew ?_ | with_reducible refine bl_alloc ?_ _ | with_reducible refine Below.alloc ?_ (by first | omega | (simp; done) | (simp; omega)) _ | with_reducible refine Below.setCell ?_ (by first | omega | (simp; done) | (simp; omega)) _ | with_reducible assumption))).size (fun k hk => (hown.lt k hk).1))
        | (go_simp; go_at_call 109; (with_reducible refine (HP.out _ (by (repeat (first | with_reducible exact Below.refl _ _ | with_reducible refine bl_drewN ?_ _ | with_reducible refine Below.drew ?_ | with_reducible refine bl_alloc ?_ _ | with_reducible refine Below.alloc ?_ (by first | omega | (simp; done) | (simp; omega)) _ | with_reducible refine Below.setCell ?_ (by first | omega | (simp; done) | (simp; omega)) _ | with_reducible assumption)))).mono ?_); rintro e wp ⟨v, rfl, hown, hbp, hCp⟩)
        | (go_simp; go_at_call 74; (with_reducible refine (HR.out _ (by (repeat (first | with_reducible exact Below.refl _ _ | with_reducible refine bl_drewN ?_ _ | with_reducible refine Below.drew ?_ | with_reducible refine bl_alloc ?_ _ | with_reducible refine Below.alloc ?_ (by first | omega | (simp; done) | (simp; omega)) _ | with_reducible refine Below.setCell ?_ (by first | omega | (simp; done) | (simp; omega)) _ | with_reducible assumption)))).mono ?_); rintro e wr ⟨rfl, hbr, hCr⟩; (try have hownr := own_below hown hbr)))
      all_goals
        go_wp2_with fail
        go_ret
        exact ⟨_, rfl, by rw [He.out]; exact own_snoc hown9, hC9⟩
end Go.Proofs.YtdikoffppjoomaaGreat.Tr
