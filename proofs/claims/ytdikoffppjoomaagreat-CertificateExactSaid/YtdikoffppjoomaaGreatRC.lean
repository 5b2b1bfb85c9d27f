/- Walks: Root of the program and of the reference. -/
import Derived.Test.YtdikoffppjoomaaGreatRB
import Derived.WalkKit
import Derived.WalkSpells
import Derived.WalkLawsBesides
import Derived.Deep.QuietTactic
import Derived.BigQuiet
import Derived.Deep.Draws
import Derived.Deep.AppendLies
import Derived.Laws.OwnMore
import Derived.Laws.BytesArg
import Derived.Lib.Hide
import Derived.Deep.LoopGhost
import Derived.Deep.RegionWith
import Derived.RegionTactic
namespace Go.Proofs.YtdikoffppjoomaaGreat.Tr
open Go.RowKit Go.Proofs.YtdikoffppjoomaaGreat.Dg
open Go.Proofs.YtdikoffppjoomaaGreat.Mw (I64 ret_int ret_bool Bk bl_trans own_ints)
set_option linter.unusedVariables false
set_option linter.unusedSimpArgs false
set_option maxRecDepth 100000

abbrev z4 : Array Value := #[.int .u32 0, .int .u32 0, .int .u32 0, .int .u32 0]
theorem I64n (n : Nat) (h : n ≤ 1000000000) : I64 (n : Int) := by unfold Mw.I64; omega
theorem rdd_ext {w : World} {A : Option Addr} {l : List St} (h : RdD w A l) (x : Mm.Ex) : RdD (Mm.ext w x) A l := h.old (Mm.ext_below w x)

set_option maxHeartbeats 1000000 in
theorem proot_0 (l : List St) (A : Option Addr) (c : Nat) (w : World) (h : l.length = 0) :
    Calls Tryz.prog 49 #[.slice A l.length c] w fun e w' => e = .returned (dv (root l)) ∧ Below w.heap.size w w' := by
  have He := Lib.hid (root_0 l h)
  rw [h]
  clear h
  go_enter Tryz.func49, Tryz.ntmps49
  go_wp2_with fail
  refine (words_any 2 none 0 [] _ (by simp) (fun i hi => absurd hi (by simp))).mono ?_
  rintro e w1 ⟨rfl, hb1⟩
  have hZ : Bk w1 w.heap.size 35 z4 := Mw.Bk.old (by (repeat (first | ((with_reducible refine Mw.Bk.new' ?_); (first | rfl | (simp; done) | (simp; omega))) | with_reducible refine Mw.Bk.alloc ?_ _ | with_reducible refine Mw.Bk.drewN ?_ _ | with_reducible refine Mw.Bk.drew ?_ | with_reducible assumption))) hb1
  have hc1 : Below w.heap.size w w1 := bl_trans (by (repeat (first | with_reducible exact Below.refl _ _ | with_reducible refine bl_drewN ?_ _ | with_reducible refine Below.drew ?_ | with_reducible refine bl_alloc ?_ _ | with_reducible refine Below.alloc ?_ (by first | omega | (simp; done) | (simp; omega)) _ | with_reducible refine Below.setCell ?_ (by first | omega | (simp; done) | (simp; omega)) _ | with_reducible assumption))) hb1
  clear hb1
  obtain ⟨⟨k0, k1, k2, k3⟩, f0, f1, f2, f3⟩ := bk4 hZ
  go_wp2_with fail
  refine bodyPost_ret (v := dv empty) (by simp [results, Tryz.results49, go_sem, k0, k1, k2, k3, empty]) rfl ⟨by rw [He.out], ?_⟩
  (repeat (first | with_reducible exact Below.refl _ _ | with_reducible refine bl_drewN ?_ _ | with_reducible refine Below.drew ?_ | with_reducible refine bl_alloc ?_ _ | with_reducible refine Below.alloc ?_ (by first | omega | (simp; done) | (simp; omega)) _ | with_reducible refine Below.setCell ?_ (by first | omega | (simp; done) | (simp; omega)) _ | with_reducible assumption))
set_option maxHeartbeats 1000000 in
theorem proot_1 (l : List St) (A : Option Addr) (c : Nat) (w : World) (h : l.length = 1) (hr : RdD w A l) :
    Calls Tryz.prog 49 #[.slice A l.length c] w fun e w' => e = .returned (dv (root l)) ∧ Below w.heap.size w w' := by
  have He := Lib.hid (root_1 l h)
  obtain ⟨b, off, rfl, hbl, c0, c1, c2, c3⟩ := hr.at 0 (by omega)
  rw [Nat.zero_mul, Nat.add_zero] at c0 c1 c2 c3
  rw [h]
  clear h hr
  go_enter Tryz.func49, Tryz.ntmps49
  go_wp2_with fail
  refine (leaf_any (gd l 0) _).mono ?_
  rintro e w1 ⟨rfl, hb1⟩
  have hZ : Bk w1 w.heap.size 35 z4 := Mw.Bk.old (by (repeat (first | ((with_reducible refine Mw.Bk.new' ?_); (first | rfl | (simp; done) | (simp; omega))) | with_reducible refine Mw.Bk.alloc ?_ _ | with_reducible refine Mw.Bk.drewN ?_ _ | with_reducible refine Mw.Bk.drew ?_ | with_reducible assumption))) hb1
  have hc1 : Below w.heap.size w w1 := bl_trans (by (repeat (first | with_reducible exact Below.refl _ _ | with_reducible refine bl_drewN ?_ _ | with_reducible refine Below.drew ?_ | with_reducible refine bl_alloc ?_ _ | with_reducible refine Below.alloc ?_ (by first | omega | (simp; done) | (simp; omega)) _ | with_reducible refine Below.setCell ?_ (by first | omega | (simp; done) | (simp; omega)) _ | with_reducible assumption))) hb1
  clear hb1
  obtain ⟨⟨k0, k1, k2, k3⟩, f0, f1, f2, f3⟩ := bk4 hZ
  go_wp2_with fail
  refine bodyPost_ret (v := dv (leaf (gd l 0))) (by simp [results, Tryz.results49, go_sem, k0, k1, k2, k3]) rfl ⟨by rw [He.out], ?_⟩
  (repeat (first | with_reducible exact Below.refl _ _ | with_reducible refine bl_drewN ?_ _ | with_reducible refine Below.drew ?_ | with_reducible refine bl_alloc ?_ _ | with_reducible refine Below.alloc ?_ (by first | omega | (simp; done) | (simp; omega)) _ | with_reducible refine Below.setCell ?_ (by first | omega | (simp; done) | (simp; omega)) _ | with_reducible assumption))
set_option maxHeartbeats 1000000 in
theorem proot_ind (m : Nat) : ∀ (l : List St) (A : Option Addr) (c : Nat) (w : World), l.length ≤ m → l.length ≤ 1000000 → l.length ≤ c → c ≤ maxLen → RdD w A l →
    Calls Tryz.prog 49 #[.slice A l.length c] w fun e w' => e = .returned (dv (root l)) ∧ Below w.heap.size w w' := by
  induction m with
  | zero => intro l A c w hm hl hlc hcm hr; exact proot_0 l A c w (by omega)
  | succ m ih =>
    intro l A c w hm hl hlc hcm hr
    by_cases h0 : l.length = 0
    · exact proot_0 l A c w h0
    by_cases h1 : l.length = 1
    · exact proot_1 l A c w h1 hr
    have h4 := spl_pos (n := l.length) (by omega)
    have h5 := spl_lt (n := l.length) (by omega)
    have He := Lib.hid (root_2 l (by omega))
    obtain ⟨b, off, rfl, hbl, -⟩ := hr 0 (by omega)
    obtain ⟨K, hK⟩ : ∃ K, K = spl l.length := ⟨_, rfl⟩
    rw [← hK] at h4 h5 He
    have HS := Lib.hid (show Calls Tryz.prog 90 #[.int .i64 (l.length : Int)] (w.alloc (.cells z4 35)) fun e w' => e = .returned (.int .i64 (K : Int)) ∧ (w.alloc (.cells z4 35)) = w' by
      have h6 := split_any (l.length : Int) (I64n _ (by omega)) (w.alloc (.cells z4 35))
      rw [splI_nat, ← hK] at h6
      exact h6)
    have hlt : (l.take K).length = K := by simp; omega
    have hld : (l.drop K).length = l.length - K := by simp
    have HT := Lib.hid (show ∀ W : World, Below w.heap.size w W → Calls Tryz.prog 49 #[.slice (some ⟨b, off, none⟩) K c] W fun e w' => e = .returned (dv (root (l.take K))) ∧ Below W.heap.size W w' from fun W hW => by
      have h6 := ih (l.take K) (some ⟨b, off, none⟩) c W (by omega) (by omega) (by omega) hcm ((hr.old hW).take K)
      rwa [hlt] at h6)
    have HD := Lib.hid (show ∀ W : World, Below w.heap.size w W → Calls Tryz.prog 49 #[.slice (some ⟨b, off + K * 4, none⟩) (l.length - K) (c - K)] W fun e w' => e = .returned (dv (root (l.drop K))) ∧ Below W.heap.size W w' from fun W hW => by
      have h6 := ih (l.drop K) (some ⟨b, off + K * 4, none⟩) (c - K) W (by omega) (by omega) (by omega) (by omega) ((hr.old hW).drop K)
      rwa [hld] at h6)
    have n0 : ((l.length : Int) == 0) = false := beq_eq_false_iff_ne.2 (by omega)
    have n1 : ((l.length : Int) == 1) = false := beq_eq_false_iff_ne.2 (by omega)
    have hck : ¬ c = K := by omega
    have hk0 : (0 : Int) ≤ (K : Int) := by omega
    have hk1 : (K : Int) ≤ (l.length : Int) := by omega
    have hk2 : (K : Int) ≤ (c : Int) := by omega
    have hk3 : (l.length : Int) ≤ (c : Int) := by omega
    unfold maxLen at hcm
    clear hK ih hr hlt hld h0 h1
    go_enter Tryz.func49, Tryz.ntmps49
    go_wp2_with fail
    refine HS.out.mono ?_
    rintro e w0 ⟨rfl, rfl⟩
    have hZ : Bk (w.alloc (.cells z4 35)) w.heap.size 35 z4 := Mw.Bk.new' rfl
    have hC0 : Below w.heap.size w (w.alloc (.cells z4 35)) := Mw.bl_alloc (Below.refl _ _) _
    clear HS
    go_wp2_with fail
    go_region_with (first | (go_at_call 49; ((with_reducible refine (HT.out _ (by first | exact hC0 | exact hC0.drew | assumption | exact Below.drew (by assumption))).mono ?_); rintro e wt ⟨rfl, hbt⟩; (first | (have hZt := hZ.drew.old hbt; have hCt := bl_trans hC0.drew hbt) | (have hZt := hZd.old hbt; have hCt := bl_trans hCd hbt)))) | (go_at_call 49; ((with_reducible refine (HD.out _ (by first | exact hC0 | exact hC0.drew | assumption | exact Below.drew (by assumption))).mono ?_); rintro e wd ⟨rfl, hbd⟩; (first | (have hZd := hZ.drew.old hbd; have hCd := bl_trans hC0.drew hbd) | (have hZd := hZt.old hbd; have hCd := bl_trans hCt hbd)))) | (go_at_call 91; ((with_reducible refine (join_any (root (l.take K)) (root (l.drop K)) _).mono ?_); rintro e wj ⟨rfl, hbj⟩; (first | (have hZj := hZd.old hbj; have hCj := bl_trans hCd hbj) | (have hZj := hZt.old hbj; have hCj := bl_trans hCt hbj)); obtain ⟨⟨k0, k1, k2, k3⟩, f0, f1, f2, f3⟩ := bk4 hZj)))
    all_goals
      go_wp2_with fail
      refine bodyPost_ret (v := dv (jn (root (l.take K)) (root (l.drop K)))) (by simp [results, Tryz.results49, go_sem, k0, k1, k2, k3]) rfl ⟨by rw [He.out], ?_⟩
      (repeat (first | with_reducible exact Below.refl _ _ | with_reducible refine bl_drewN ?_ _ | with_reducible refine Below.drew ?_ | with_reducible refine bl_alloc ?_ _ | with_reducible refine Below.alloc ?_ (by first | omega | (simp; done) | (simp; omega)) _ | with_reducible refine Below.setCell ?_ (by first | omega | (simp; done) | (simp; omega)) _ | with_reducible assumption))
set_option maxHeartbeats 1000000 in
theorem rroot_0 (l : List St) (A : Option Addr) (c : Nat) (w : World) (h : l.length = 0) :
    Calls Tryz.prog 74 #[.slice A l.length c] w fun e w' => e = .returned (dv (root l)) ∧ Below w.heap.size w w' := by
  have He := Lib.hid (root_0 l h)
  rw [h]
  clear h
  go_enter Tryz.func74, Tryz.ntmps74
  go_wp2_with fail
  refine (rwords_any 2 none 0 [] _ (by simp) (fun i hi => absurd hi (by simp))).mono ?_
  rintro e w1 ⟨rfl, hb1⟩
  have hZ : Bk w1 w.heap.size 35 z4 := Mw.Bk.old (by (repeat (first | ((with_reducible refine Mw.Bk.new' ?_); (first | rfl | (simp; done) | (simp; omega))) | with_reducible refine Mw.Bk.alloc ?_ _ | with_reducible refine Mw.Bk.drewN ?_ _ | with_reducible refine Mw.Bk.drew ?_ | with_reducible assumption))) hb1
  have hc1 : Below w.heap.size w w1 := bl_trans (by (repeat (first | with_reducible exact Below.refl _ _ | with_reducible refine bl_drewN ?_ _ | with_reducible refine Below.drew ?_ | with_reducible refine bl_alloc ?_ _ | with_reducible refine Below.alloc ?_ (by first | omega | (simp; done) | (simp; omega)) _ | with_reducible refine Below.setCell ?_ (by first | omega | (simp; done) | (simp; omega)) _ | with_reducible assumption))) hb1
  clear hb1
  obtain ⟨⟨k0, k1, k2, k3⟩, f0, f1, f2, f3⟩ := bk4 hZ
  go_wp2_with fail
  refine bodyPost_ret (v := dv empty) (by simp [results, Tryz.results74, go_sem, k0, k1, k2, k3, empty]) rfl ⟨by rw [He.out], ?_⟩
  (repeat (first | with_reducible exact Below.refl _ _ | with_reducible refine bl_drewN ?_ _ | with_reducible refine Below.drew ?_ | with_reducible refine bl_alloc ?_ _ | with_reducible refine Below.alloc ?_ (by first | omega | (simp; done) | (simp; omega)) _ | with_reducible refine Below.setCell ?_ (by first | omega | (simp; done) | (simp; omega)) _ | with_reducible assumption))
set_option maxHeartbeats 1000000 in
theorem rroot_1 (l : List St) (A : Option Addr) (c : Nat) (w : World) (h : l.length = 1) (hr : RdD w A l) :
    Calls Tryz.prog 74 #[.slice A l.length c] w fun e w' => e = .returned (dv (root l)) ∧ Below w.heap.size w w' := by
  have He := Lib.hid (root_1 l h)
  obtain ⟨b, off, rfl, hbl, c0, c1, c2, c3⟩ := hr.at 0 (by omega)
  rw [Nat.zero_mul, Nat.add_zero] at c0 c1 c2 c3
  rw [h]
  clear h hr
  go_enter Tryz.func74, Tryz.ntmps74
  go_wp2_with fail
  refine (rleaf_any (gd l 0) _).mono ?_
  rintro e w1 ⟨rfl, hb1⟩
  have hZ : Bk w1 w.heap.size 35 z4 := Mw.Bk.old (by (repeat (first | ((with_reducible refine Mw.Bk.new' ?_); (first | rfl | (simp; done) | (simp; omega))) | with_reducible refine Mw.Bk.alloc ?_ _ | with_reducible refine Mw.Bk.drewN ?_ _ | with_reducible refine Mw.Bk.drew ?_ | with_reducible assumption))) hb1
  have hc1 : Below w.heap.size w w1 := bl_trans (by (repeat (first | with_reducible exact Below.refl _ _ | with_reducible refine bl_drewN ?_ _ | with_reducible refine Below.drew ?_ | with_reducible refine bl_alloc ?_ _ | with_reducible refine Below.alloc ?_ (by first | omega | (simp; done) | (simp; omega)) _ | with_reducible refine Below.setCell ?_ (by first | omega | (simp; done) | (simp; omega)) _ | with_reducible assumption))) hb1
  clear hb1
  obtain ⟨⟨k0, k1, k2, k3⟩, f0, f1, f2, f3⟩ := bk4 hZ
  go_wp2_with fail
  refine bodyPost_ret (v := dv (leaf (gd l 0))) (by simp [results, Tryz.results74, go_sem, k0, k1, k2, k3]) rfl ⟨by rw [He.out], ?_⟩
  (repeat (first | with_reducible exact Below.refl _ _ | with_reducible refine bl_drewN ?_ _ | with_reducible refine Below.drew ?_ | with_reducible refine bl_alloc ?_ _ | with_reducible refine Below.alloc ?_ (by first | omega | (simp; done) | (simp; omega)) _ | with_reducible refine Below.setCell ?_ (by first | omega | (simp; done) | (simp; omega)) _ | with_reducible assumption))
set_option maxHeartbeats 1000000 in
theorem rroot_ind (m : Nat) : ∀ (l : List St) (A : Option Addr) (c : Nat) (w : World), l.length ≤ m → l.length ≤ 1000000 → l.length ≤ c → c ≤ maxLen → RdD w A l →
    Calls Tryz.prog 74 #[.slice A l.length c] w fun e w' => e = .returned (dv (root l)) ∧ Below w.heap.size w w' := by
  induction m with
  | zero => intro l A c w hm hl hlc hcm hr; exact rroot_0 l A c w (by omega)
  | succ m ih =>
    intro l A c w hm hl hlc hcm hr
    by_cases h0 : l.length = 0
    · exact rroot_0 l A c w h0
    by_cases h1 : l.length = 1
    · exact rroot_1 l A c w h1 hr
    have h4 := spl_pos (n := l.length) (by omega)
    have h5 := spl_lt (n := l.length) (by omega)
    have He := Lib.hid (root_2 l (by omega))
    obtain ⟨b, off, rfl, hbl, -⟩ := hr 0 (by omega)
    obtain ⟨K, hK⟩ : ∃ K, K = spl l.length := ⟨_, rfl⟩
    rw [← hK] at h4 h5 He
    have HS := Lib.hid (show Calls Tryz.prog 97 #[.int .i64 (l.length : Int)] (w.alloc (.cells z4 35)) fun e w' => e = .returned (.int .i64 (K : Int)) ∧ (w.alloc (.cells z4 35)) = w' by
      have h6 := rsplit_any (l.length : Int) (I64n _ (by omega)) (w.alloc (.cells z4 35))
      rw [splI_nat, ← hK] at h6
      exact h6)
    have hlt : (l.take K).length = K := by simp; omega
    have hld : (l.drop K).length = l.length - K := by simp
    have HT := Lib.hid (show ∀ W : World, Below w.heap.size w W → Calls Tryz.prog 74 #[.slice (some ⟨b, off, none⟩) K c] W fun e w' => e = .returned (dv (root (l.take K))) ∧ Below W.heap.size W w' from fun W hW => by
      have h6 := ih (l.take K) (some ⟨b, off, none⟩) c W (by omega) (by omega) (by omega) hcm ((hr.old hW).take K)
      rwa [hlt] at h6)
    have HD := Lib.hid (show ∀ W : World, Below w.heap.size w W → Calls Tryz.prog 74 #[.slice (some ⟨b, off + K * 4, none⟩) (l.length - K) (c - K)] W fun e w' => e = .returned (dv (root (l.drop K))) ∧ Below W.heap.size W w' from fun W hW => by
      have h6 := ih (l.drop K) (some ⟨b, off + K * 4, none⟩) (c - K) W (by omega) (by omega) (by omega) (by omega) ((hr.old hW).drop K)
      rwa [hld] at h6)
    have n0 : ((l.length : Int) == 0) = false := beq_eq_false_iff_ne.2 (by omega)
    have n1 : ((l.length : Int) == 1) = false := beq_eq_false_iff_ne.2 (by omega)
    have hck : ¬ c = K := by omega
    have hk0 : (0 : Int) ≤ (K : Int) := by omega
    have hk1 : (K : Int) ≤ (l.length : Int) := by omega
    have hk2 : (K : Int) ≤ (c : Int) := by omega
    have hk3 : (l.length : Int) ≤ (c : Int) := by omega
    unfold maxLen at hcm
    clear hK ih hr hlt hld h0 h1
    go_enter Tryz.func74, Tryz.ntmps74
    go_wp2_with fail
    refine HS.out.mono ?_
    rintro e w0 ⟨rfl, rfl⟩
    have hZ : Bk (w.alloc (.cells z4 35)) w.heap.size 35 z4 := Mw.Bk.new' rfl
    have hC0 : Below w.heap.size w (w.alloc (.cells z4 35)) := Mw.bl_alloc (Below.refl _ _) _
    clear HS
    go_wp2_with fail
    go_region_with (first | (go_at_call 74; ((with_reducible refine (HT.out _ (by first | exact hC0 | exact hC0.drew | assumption | exact Below.drew (by assumption))).mono ?_); rintro e wt ⟨rfl, hbt⟩; (first | (have hZt := hZ.drew.old hbt; have hCt := bl_trans hC0.drew hbt) | (have hZt := hZd.old hbt; have hCt := bl_trans hCd hbt)))) | (go_at_call 74; ((with_reducible refine (HD.out _ (by first | exact hC0 | exact hC0.drew | assumption | exact Below.drew (by assumption))).mono ?_); rintro e wd ⟨rfl, hbd⟩; (first | (have hZd := hZ.drew.old hbd; have hCd := bl_trans hC0.drew hbd) | (have hZd := hZt.old hbd; have hCd := bl_trans hCt hbd)))) | (go_at_call 105; ((with_reducible refine (rjoin_any (root (l.take K)) (root (l.drop K)) _).mono ?_); rintro e wj ⟨rfl, hbj⟩; (first | (have hZj := hZd.old hbj; have hCj := bl_trans hCd hbj) | (have hZj := hZt.old hbj; have hCj := bl_trans hCt hbj)); obtain ⟨⟨k0, k1, k2, k3⟩, f0, f1, f2, f3⟩ := bk4 hZj)))
    all_goals
      go_wp2_with fail
      refine bodyPost_ret (v := dv (jn (root (l.take K)) (root (l.drop K)))) (by simp [results, Tryz.results74, go_sem, k0, k1, k2, k3]) rfl ⟨by rw [He.out], ?_⟩
      (repeat (first | with_reducible exact Below.refl _ _ | with_reducible refine bl_drewN ?_ _ | with_reducible refine Below.drew ?_ | with_reducible refine bl_alloc ?_ _ | with_reducible refine Below.alloc ?_ (by first | omega | (simp; done) | (simp; omega)) _ | with_reducible refine Below.setCell ?_ (by first | omega | (simp; done) | (simp; omega)) _ | with_reducible assumption))
end Go.Proofs.YtdikoffppjoomaaGreat.Tr
