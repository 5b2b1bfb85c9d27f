/- Walks: Sign and Verify of the program and of the reference. -/
import Derived.Test.YtdikoffppjoomaaGreatSB
import Derived.Test.YtdikoffppjoomaaGreatMem
import Derived.WalkKit
import Derived.WalkSpells
import Derived.WalkLawsBesides
import Derived.Deep.QuietTactic
import Derived.BigQuiet
import Derived.Deep.Draws
import Derived.Deep.AppendLies
import Derived.Laws.OwnMore
import Derived.Laws.BytesArg
import Derived.Lib.Hide
import Derived.Deep.LoopGhost
namespace Go.Proofs.YtdikoffppjoomaaGreat.Sg
open Go.RowKit Go.Proofs.YtdikoffppjoomaaGreat.Dg
open Go.Proofs.YtdikoffppjoomaaGreat.Mw (I64 ret_int ret_bool Bk bl_trans own_ints)
set_option linter.unusedVariables false
set_option linter.unusedSimpArgs false

abbrev c4 (s : St) : Array Value := #[.int .u32 s.1, .int .u32 s.2.1, .int .u32 s.2.2.1, .int .u32 s.2.2.2]
theorem bk4 {w : World} {g : Nat} {T : TypeId} {a b c d : Value} (h : Bk w g T #[a, b, c, d]) : w.cell? ⟨g, 0, none⟩ = some a ∧ w.cell? ⟨g, 1, none⟩ = some b ∧ w.cell? ⟨g, 2, none⟩ = some c ∧ w.cell? ⟨g, 3, none⟩ = some d := ⟨h.cell 0, h.cell 1, h.cell 2, h.cell 3⟩
theorem bk2 {w : World} {g : Nat} {T : TypeId} {a b : Value} (h : Bk w g T #[a, b]) : w.cell? ⟨g, 0, none⟩ = some a ∧ w.cell? ⟨g, 1, none⟩ = some b ∧ w.frozen? ⟨g, 0, none⟩ = false ∧ w.frozen? ⟨g, 1, none⟩ = false := ⟨h.cell 0, h.cell 1, h.frozen 0, h.frozen 1⟩
/-- A signature. -/
noncomputable def sR (s : Int) (d : St) : Int := pw 4 (non s d)
noncomputable def sS (s : Int) (d : St) : Int := (non s d + chal (sR s d) (pw 4 s) d * s) % 1073741789
abbrev sgv (r s : Int) : Value := .agg #[.int .i64 r, .int .i64 s]
theorem sS_bd (s : Int) (d : St) : 0 ≤ sS s d ∧ sS s d < 1073741789 := by unfold sS; omega
theorem sR_bd (s : Int) (d : St) : 0 ≤ sR s d ∧ sR s d < 2147483579 := pw_bd _ _
theorem val_bd {s : Int} (h : val s = true) : 1 ≤ s ∧ s < 1073741789 := of_decide_eq_true h
theorem public_yes (s : Int) (h : val s = true) (w : World) :
    Calls Tryz.prog 43 #[.int .i64 s] w fun e w' => e = .returned (.tuple #[.int .i64 (pw 4 s), .int .i64 0]) ∧ w = w' := by
  have := public_any s (by have := val_bd h; unfold I64; omega) w
  rwa [(pub_yes s h).1, (pub_yes s h).2] at this
theorem public_no (s : Int) (hs : I64 s) (h : val s = false) (w : World) :
    Calls Tryz.prog 43 #[.int .i64 s] w fun e w' => e = .returned (.tuple #[.int .i64 0, .int .i64 2]) ∧ w = w' := by
  have := public_any s hs w
  rwa [(pub_no s h).1, (pub_no s h).2] at this
theorem rpublic_yes (s : Int) (h : val s = true) (w : World) :
    Calls Tryz.prog 10 #[.int .i64 s] w fun e w' => e = .returned (.tuple #[.int .i64 (pw 4 s), .int .i64 0]) ∧ w = w' := by
  have := rpublic_any s (by have := val_bd h; unfold I64; omega) w
  rwa [(pub_yes s h).1, (pub_yes s h).2] at this
theorem rpublic_no (s : Int) (hs : I64 s) (h : val s = false) (w : World) :
    Calls Tryz.prog 10 #[.int .i64 s] w fun e w' => e = .returned (.tuple #[.int .i64 0, .int .i64 2]) ∧ w = w' := by
  have := rpublic_any s hs w
  rwa [(pub_no s h).1, (pub_no s h).2] at this

set_option maxHeartbeats 1000000 in
theorem sign_yes (s : Int) (d : St) (hv : val s = true) (hd : Wd d) (w : World) :
    Calls Tryz.prog 52 #[.int .i64 s, dv d] w fun e w' => e = .returned (.tuple #[sgv (sR s d) (sS s d), .int .i64 0]) ∧ Below w.heap.size w w' := by
  have Hd := Lib.hid hd
  have Hv := Lib.hid hv
  obtain ⟨v1, v2⟩ := val_bd hv
  clear hd hv
  have hbd := fst_bd 4 [s] d
  have hnb := non_bd s d
  have hcb := chal_bd (sR s d) (pw 4 s) d
  obtain ⟨m1, m2⟩ := mod_bd (chal (sR s d) (pw 4 s) d) s (by omega) (by omega) (by omega) (by omega)
  have Hl : Hid ((app [s] d 4).length < 1000000) := by unfold Hid; rw [app_len _ _ _ (by omega)]; simp
  go_enter Tryz.func52, Tryz.ntmps52
  go_wp2_with fail
  refine (public_yes s Hv.out _).mono ?_
  rintro e w0 ⟨rfl, rfl⟩
  go_wp2_with fail
  refine (first_any 4 d _ [s] (w.heap.size + 2) _ (by simp) (by simp) Hd.out (bk_owns (l := [s]) (cs := #[.int .i64 s]) (by (repeat (first | ((with_reducible refine Mw.Bk.new' ?_); (first | rfl | (simp; done) | (simp; omega))) | with_reducible refine Mw.Bk.alloc ?_ _ | with_reducible refine Mw.Bk.drewN ?_ _ | with_reducible refine Mw.Bk.drew ?_ | with_reducible assumption))) rfl (by simp [maxLen]) (by omega) rfl)).mono ?_
  rintro e w1 ⟨rfl, hb1⟩
  have hD1 : Bk w1 w.heap.size 35 (c4 d) := Mw.Bk.below (B := w.heap.size + 2) (by (repeat (first | ((with_reducible refine Mw.Bk.new' ?_); (first | rfl | (simp; done) | (simp; omega))) | with_reducible refine Mw.Bk.alloc ?_ _ | with_reducible refine Mw.Bk.drewN ?_ _ | with_reducible refine Mw.Bk.drew ?_ | with_reducible assumption))) hb1 (by omega)
  have hS1 : Bk w1 (w.heap.size + 1) 37 #[.int .i64 0, .int .i64 0] := Mw.Bk.below (B := w.heap.size + 2) (by (repeat (first | ((with_reducible refine Mw.Bk.new' ?_); (first | rfl | (simp; done) | (simp; omega))) | with_reducible refine Mw.Bk.alloc ?_ _ | with_reducible refine Mw.Bk.drewN ?_ _ | with_reducible refine Mw.Bk.drew ?_ | with_reducible assumption))) hb1 (by omega)
  have hc1 : Below w.heap.size w w1 := Below.trans (by (repeat (first | with_reducible exact Below.refl _ _ | with_reducible refine bl_drewN ?_ _ | with_reducible refine Below.drew ?_ | with_reducible refine bl_alloc ?_ _ | with_reducible refine Below.alloc ?_ (by first | omega | (simp; done) | (simp; omega)) _ | with_reducible refine Below.setCell ?_ (by first | omega | (simp; done) | (simp; omega)) _ | with_reducible assumption))) (hb1.mono (by omega))
  clear hb1
  obtain ⟨k0, k1, k2, k3⟩ := bk4 hD1
  have Hn : Hid (1 + fst0 4 [s] d % 1073741788 = non s d) := rfl
  go_wp2_with fail
  rw [Hn.out]
  refine (power_any 4 (non s d) (by unfold I64; omega) (by unfold I64; omega) _).mono ?_
  rintro e w2 ⟨rfl, rfl⟩
  have Hr : Hid (pw 4 (non s d) = sR s d) := rfl
  rw [Hr.out]
  go_wp2_with fail
  refine (chal_any (sR s d) (pw 4 s) d Hd.out _).mono ?_
  rintro e w3 ⟨rfl, hb3⟩
  have hS3 := hS1.old hb3
  have hc3 : Below w.heap.size w w3 := bl_trans hc1 hb3
  clear hb3 hS1 hD1 k0 k1 k2 k3 hc1
  obtain ⟨j0, j1, f0, f1⟩ := bk2 hS3
  go_wp2_with fail
  refine bodyPost_ret (v := .tuple #[sgv (sR s d) (sS s d), .int .i64 0]) (by simp [results, Tryz.results52, go_sem, j0, j1, sS]) rfl ⟨rfl, ?_⟩
  (repeat (first | with_reducible exact Below.refl _ _ | with_reducible refine bl_drewN ?_ _ | with_reducible refine Below.drew ?_ | with_reducible refine bl_alloc ?_ _ | with_reducible refine Below.alloc ?_ (by first | omega | (simp; done) | (simp; omega)) _ | with_reducible refine Below.setCell ?_ (by first | omega | (simp; done) | (simp; omega)) _ | with_reducible assumption))
set_option maxHeartbeats 1000000 in
theorem sign_no (s : Int) (d : St) (hs : I64 s) (hv : val s = false) (w : World) :
    Calls Tryz.prog 52 #[.int .i64 s, dv d] w fun e w' => e = .returned (.tuple #[sgv 0 0, .int .i64 2]) ∧ Below w.heap.size w w' := by
  have Hs := Lib.hid hs
  have Hv := Lib.hid hv
  clear hs hv
  go_enter Tryz.func52, Tryz.ntmps52
  go_wp2_with fail
  refine (public_no s Hs.out Hv.out _).mono ?_
  rintro e w0 ⟨rfl, rfl⟩
  go_wp2_with fail
  refine bodyPost_ret (v := .tuple #[sgv 0 0, .int .i64 2]) (by simp [results, Tryz.results52, go_sem]) rfl ⟨rfl, ?_⟩
  (repeat (first | with_reducible exact Below.refl _ _ | with_reducible refine bl_drewN ?_ _ | with_reducible refine Below.drew ?_ | with_reducible refine bl_alloc ?_ _ | with_reducible refine Below.alloc ?_ (by first | omega | (simp; done) | (simp; omega)) _ | with_reducible refine Below.setCell ?_ (by first | omega | (simp; done) | (simp; omega)) _ | with_reducible assumption))

set_option maxHeartbeats 1000000 in
theorem rsign_yes (s : Int) (d : St) (hv : val s = true) (hd : Wd d) (w : World) :
    Calls Tryz.prog 77 #[.int .i64 s, dv d] w fun e w' => e = .returned (.tuple #[sgv (sR s d) (sS s d), .int .i64 0]) ∧ Below w.heap.size w w' := by
  have Hd := Lib.hid hd
  have Hv := Lib.hid hv
  obtain ⟨v1, v2⟩ := val_bd hv
  clear hd hv
  have hbd := fst_bd 4 [s] d
  have hnb := non_bd s d
  have hcb := chal_bd (sR s d) (pw 4 s) d
  obtain ⟨m1, m2⟩ := mod_bd (chal (sR s d) (pw 4 s) d) s (by omega) (by omega) (by omega) (by omega)
  have Hl : Hid ((app [s] d 4).length < 1000000) := by unfold Hid; rw [app_len _ _ _ (by omega)]; simp
  go_enter Tryz.func77, Tryz.ntmps77
  go_wp2_with fail
  refine (rpublic_yes s Hv.out _).mono ?_
  rintro e w0 ⟨rfl, rfl⟩
  go_wp2_with fail
  refine (rnums_any d _ [s] (w.heap.size + 2) _ (by simp) (by simp) Hd.out (bk_owns (l := [s]) (cs := #[.int .i64 s]) (by (repeat (first | ((with_reducible refine Mw.Bk.new' ?_); (first | rfl | (simp; done) | (simp; omega))) | with_reducible refine Mw.Bk.alloc ?_ _ | with_reducible refine Mw.Bk.drewN ?_ _ | with_reducible refine Mw.Bk.drew ?_ | with_reducible assumption))) rfl (by simp [maxLen]) (by omega) rfl)).mono ?_
  rintro e wa ⟨A, c, rfl, hra, hsa, hba⟩
  go_wp2_with fail
  refine (rnumbers_any 4 A c (app [s] d 4) _ Hl.out hra).mono ?_
  rintro e wb ⟨rfl, hbb⟩
  go_wp2_with fail
  refine (rfirst_any _ (words_bd _ _).1 (words_bd _ _).2 _).mono ?_
  rintro e w1 ⟨rfl, hbc⟩
  have Hf : Hid ((words 4 (nw (app [s] d 4) (app [s] d 4).length)).1 = fst0 4 [s] d) := rfl
  rw [Hf.out]
  have hb1 := hba.trans (bl_trans hbb hbc |>.mono (by simp at hsa; omega))
  clear hba hbb hbc hra hsa
  have hD1 : Bk w1 w.heap.size 35 (c4 d) := Mw.Bk.below (B := w.heap.size + 2) (by (repeat (first | ((with_reducible refine Mw.Bk.new' ?_); (first | rfl | (simp; done) | (simp; omega))) | with_reducible refine Mw.Bk.alloc ?_ _ | with_reducible refine Mw.Bk.drewN ?_ _ | with_reducible refine Mw.Bk.drew ?_ | with_reducible assumption))) hb1 (by omega)
  have hS1 : Bk w1 (w.heap.size + 1) 37 #[.int .i64 0, .int .i64 0] := Mw.Bk.below (B := w.heap.size + 2) (by (repeat (first | ((with_reducible refine Mw.Bk.new' ?_); (first | rfl | (simp; done) | (simp; omega))) | with_reducible refine Mw.Bk.alloc ?_ _ | with_reducible refine Mw.Bk.drewN ?_ _ | with_reducible refine Mw.Bk.drew ?_ | with_reducible assumption))) hb1 (by omega)
  have hc1 : Below w.heap.size w w1 := Below.trans (by (repeat (first | with_reducible exact Below.refl _ _ | with_reducible refine bl_drewN ?_ _ | with_reducible refine Below.drew ?_ | with_reducible refine bl_alloc ?_ _ | with_reducible refine Below.alloc ?_ (by first | omega | (simp; done) | (simp; omega)) _ | with_reducible refine Below.setCell ?_ (by first | omega | (simp; done) | (simp; omega)) _ | with_reducible assumption))) (hb1.mono (by omega))
  clear hb1
  obtain ⟨k0, k1, k2, k3⟩ := bk4 hD1
  have Hn : Hid (1 + fst0 4 [s] d % 1073741788 = non s d) := rfl
  go_wp2_with fail
  rw [Hn.out]
  refine (rpower_any 4 (non s d) (by unfold I64; omega) (by unfold I64; omega) _).mono ?_
  rintro e w2 ⟨rfl, rfl⟩
  have Hr : Hid (pw 4 (non s d) = sR s d) := rfl
  rw [Hr.out]
  go_wp2_with fail
  refine (rchal_any (sR s d) (pw 4 s) d Hd.out _).mono ?_
  rintro e w3 ⟨rfl, hb3⟩
  have hS3 := hS1.old hb3
  have hc3 : Below w.heap.size w w3 := bl_trans hc1 hb3
  clear hb3 hS1 hD1 k0 k1 k2 k3 hc1
  obtain ⟨j0, j1, f0, f1⟩ := bk2 hS3
  go_wp2_with fail
  refine bodyPost_ret (v := .tuple #[sgv (sR s d) (sS s d), .int .i64 0]) (by simp [results, Tryz.results77, go_sem, j0, j1, sS]) rfl ⟨rfl, ?_⟩
  (repeat (first | with_reducible exact Below.refl _ _ | with_reducible refine bl_drewN ?_ _ | with_reducible refine Below.drew ?_ | with_reducible refine bl_alloc ?_ _ | with_reducible refine Below.alloc ?_ (by first | omega | (simp; done) | (simp; omega)) _ | with_reducible refine Below.setCell ?_ (by first | omega | (simp; done) | (simp; omega)) _ | with_reducible assumption))
set_option maxHeartbeats 1000000 in
theorem rsign_no (s : Int) (d : St) (hs : I64 s) (hv : val s = false) (w : World) :
    Calls Tryz.prog 77 #[.int .i64 s, dv d] w fun e w' => e = .returned (.tuple #[sgv 0 0, .int .i64 2]) ∧ Below w.heap.size w w' := by
  have Hs := Lib.hid hs
  have Hv := Lib.hid hv
  clear hs hv
  go_enter Tryz.func77, Tryz.ntmps77
  go_wp2_with fail
  refine (rpublic_no s Hs.out Hv.out _).mono ?_
  rintro e w0 ⟨rfl, rfl⟩
  go_wp2_with fail
  refine bodyPost_ret (v := .tuple #[sgv 0 0, .int .i64 2]) (by simp [results, Tryz.results77, go_sem]) rfl ⟨rfl, ?_⟩
  (repeat (first | with_reducible exact Below.refl _ _ | with_reducible refine bl_drewN ?_ _ | with_reducible refine Below.drew ?_ | with_reducible refine bl_alloc ?_ _ | with_reducible refine Below.alloc ?_ (by first | omega | (simp; done) | (simp; omega)) _ | with_reducible refine Below.setCell ?_ (by first | omega | (simp; done) | (simp; omega)) _ | with_reducible assumption))

theorem ver_m1 (p R S c : Int) (h : mem p = false) : ver p R S c = false := by unfold ver; rw [h]; rfl
theorem ver_m2 (p R S c : Int) (h : mem R = false) : ver p R S c = false := by unfold ver; rw [h]; simp
theorem ver_eq (p R S c : Int) (h : mem p = true) (h' : mem R = true) (h0 : 0 ≤ S) (h1 : S < 1073741789) : ver p R S c = (pw 4 S == R * pw p c % 2147483579) := by
  unfold ver
  rw [h, h', decide_eq_true (show 0 ≤ S ∧ S < 1073741789 from ⟨h0, h1⟩), Bool.true_and, Bool.true_and, Bool.true_and, Bool.eq_iff_iff, decide_eq_true_iff, beq_iff_eq]
theorem mem_bd {x : Int} (h : mem x = true) : 1 ≤ x ∧ x < 2147483579 := ⟨(of_decide_eq_true h).1, (of_decide_eq_true h).2.1⟩

set_option maxHeartbeats 1000000 in
theorem verify_any (p r s : Int) (d : St) (hp : I64 p) (hr : I64 r) (hs : I64 s) (hd : Wd d) (w : World) :
    Calls Tryz.prog 59 #[.int .i64 p, dv d, sgv r s] w fun e w' => e = .returned (.bool (ver p r s (chal r p d))) ∧ Below w.heap.size w w' := by
  have Hd := Lib.hid hd
  clear hd
  obtain ⟨p0, p1⟩ := hp
  obtain ⟨r0, r1⟩ := hr
  obtain ⟨s0, s1⟩ := hs
  by_cases hS : 0 ≤ s ∧ s < 1073741789
  · obtain ⟨b0, b1⟩ := hS
    cases hm : mem p
    · have He := Lib.hid (ver_m1 p r s (chal r p d) hm)
      go_enter Tryz.func59, Tryz.ntmps59
      go_wp2_with (go_at_call 95; refine (member_any _ _).mono ?_; rintro e w' ⟨rfl, rfl⟩)
      go_ret
      exact ⟨ret_bool He.out.symm, by (repeat (first | with_reducible exact Below.refl _ _ | with_reducible refine bl_drewN ?_ _ | with_reducible refine Below.drew ?_ | with_reducible refine bl_alloc ?_ _ | with_reducible refine Below.alloc ?_ (by first | omega | (simp; done) | (simp; omega)) _ | with_reducible refine Below.setCell ?_ (by first | omega | (simp; done) | (simp; omega)) _ | with_reducible assumption))⟩
    cases hn : mem r
    · have He := Lib.hid (ver_m2 p r s (chal r p d) hn)
      go_enter Tryz.func59, Tryz.ntmps59
      go_wp2_with (go_at_call 95; refine (member_any _ _).mono ?_; rintro e w' ⟨rfl, rfl⟩)
      go_ret
      exact ⟨ret_bool He.out.symm, by (repeat (first | with_reducible exact Below.refl _ _ | with_reducible refine bl_drewN ?_ _ | with_reducible refine Below.drew ?_ | with_reducible refine bl_alloc ?_ _ | with_reducible refine Below.alloc ?_ (by first | omega | (simp; done) | (simp; omega)) _ | with_reducible refine Below.setCell ?_ (by first | omega | (simp; done) | (simp; omega)) _ | with_reducible assumption))⟩
    have He := Lib.hid (ver_eq p r s (chal r p d) hm hn b0 b1)
    obtain ⟨hr0, hr1⟩ := mem_bd hn
    have hbd := pw_bd p (chal r p d)
    have hcb := chal_bd r p d
    obtain ⟨m0, m1⟩ := mod_bd r (pw p (chal r p d)) (by omega) (by omega) (by omega) (by omega)
    have hw : IntKind.i64.wrap (r * pw p (chal r p d)) = r * pw p (chal r p d) := IntWalk.i64_in _ (by omega)
    go_enter Tryz.func59, Tryz.ntmps59
    go_wp2_with (go_at_call 95; refine (member_any _ _).mono ?_; rintro e w' ⟨rfl, rfl⟩)
    refine Mm.region_ext (by kernel_rfl) (by kernel_rfl) ?_; (repeat (first | go_big_quiet_step ((first | (go_at_call 84; exact Mm.calls_same (power_any _ _ (by unfold I64; omega) (by unfold I64; omega) _)) | (go_at_call 93; exact Mm.calls_ext (chal_any _ _ d Hd.out _)))) | quiet_step ((first | (go_at_call 84; exact Mm.calls_same (power_any _ _ (by unfold I64; omega) (by unfold I64; omega) _)) | (go_at_call 93; exact Mm.calls_ext (chal_any _ _ d Hd.out _)))))); refine wpQuiet_nil ?_
    intro w5 hb5
    go_wp2_with fail
    go_ret
    exact ⟨ret_bool (by first | exact He.out.symm | (rw [Int.tmod_eq_emod_of_nonneg m0]; exact He.out.symm)), bl_trans (by (repeat (first | with_reducible exact Below.refl _ _ | with_reducible refine bl_drewN ?_ _ | with_reducible refine Below.drew ?_ | with_reducible refine bl_alloc ?_ _ | with_reducible refine Below.alloc ?_ (by first | omega | (simp; done) | (simp; omega)) _ | with_reducible refine Below.setCell ?_ (by first | omega | (simp; done) | (simp; omega)) _ | with_reducible assumption))) hb5⟩
  · have He := Lib.hid (ver_no p r s (chal r p d) (by omega))
    go_enter Tryz.func59, Tryz.ntmps59
    go_wp2_with (go_at_call 95; refine (member_any _ _).mono ?_; rintro e w' ⟨rfl, rfl⟩)
    all_goals (first | (exfalso; omega) | (go_ret; exact ⟨ret_bool He.out.symm, by (repeat (first | with_reducible exact Below.refl _ _ | with_reducible refine bl_drewN ?_ _ | with_reducible refine Below.drew ?_ | with_reducible refine bl_alloc ?_ _ | with_reducible refine Below.alloc ?_ (by first | omega | (simp; done) | (simp; omega)) _ | with_reducible refine Below.setCell ?_ (by first | omega | (simp; done) | (simp; omega)) _ | with_reducible assumption))⟩))

set_option maxHeartbeats 1000000 in
theorem rverify_any (p r s : Int) (d : St) (hp : I64 p) (hr : I64 r) (hs : I64 s) (hd : Wd d) (w : World) :
    Calls Tryz.prog 62 #[.int .i64 p, dv d, sgv r s] w fun e w' => e = .returned (.bool (ver p r s (chal r p d))) ∧ Below w.heap.size w w' := by
  have Hd := Lib.hid hd
  clear hd
  obtain ⟨p0, p1⟩ := hp
  obtain ⟨r0, r1⟩ := hr
  obtain ⟨s0, s1⟩ := hs
  by_cases hS : 0 ≤ s ∧ s < 1073741789
  · obtain ⟨b0, b1⟩ := hS
    cases hm : mem p
    · have He := Lib.hid (ver_m1 p r s (chal r p d) hm)
      go_enter Tryz.func62, Tryz.ntmps62
      go_wp2_with (go_at_call 98; refine (rmember_any _ _).mono ?_; rintro e w' ⟨rfl, rfl⟩)
      go_ret
      exact ⟨ret_bool He.out.symm, by (repeat (first | with_reducible exact Below.refl _ _ | with_reducible refine bl_drewN ?_ _ | with_reducible refine Below.drew ?_ | with_reducible refine bl_alloc ?_ _ | with_reducible refine Below.alloc ?_ (by first | omega | (simp; done) | (simp; omega)) _ | with_reducible refine Below.setCell ?_ (by first | omega | (simp; done) | (simp; omega)) _ | with_reducible assumption))⟩
    cases hn : mem r
    · have He := Lib.hid (ver_m2 p r s (chal r p d) hn)
      go_enter Tryz.func62, Tryz.ntmps62
      go_wp2_with (go_at_call 98; refine (rmember_any _ _).mono ?_; rintro e w' ⟨rfl, rfl⟩)
      go_ret
      exact ⟨ret_bool He.out.symm, by (repeat (first | with_reducible exact Below.refl _ _ | with_reducible refine bl_drewN ?_ _ | with_reducible refine Below.drew ?_ | with_reducible refine bl_alloc ?_ _ | with_reducible refine Below.alloc ?_ (by first | omega | (simp; done) | (simp; omega)) _ | with_reducible refine Below.setCell ?_ (by first | omega | (simp; done) | (simp; omega)) _ | with_reducible assumption))⟩
    have He := Lib.hid (ver_eq p r s (chal r p d) hm hn b0 b1)
    obtain ⟨hr0, hr1⟩ := mem_bd hn
    have hbd := pw_bd p (chal r p d)
    have hcb := chal_bd r p d
    obtain ⟨m0, m1⟩ := mod_bd r (pw p (chal r p d)) (by omega) (by omega) (by omega) (by omega)
    have hw : IntKind.i64.wrap (r * pw p (chal r p d)) = r * pw p (chal r p d) := IntWalk.i64_in _ (by omega)
    go_enter Tryz.func62, Tryz.ntmps62
    go_wp2_with (go_at_call 98; refine (rmember_any _ _).mono ?_; rintro e w' ⟨rfl, rfl⟩)
    refine Mm.region_ext (by kernel_rfl) (by kernel_rfl) ?_; (repeat (first | go_big_quiet_step ((first | (go_at_call 46; exact Mm.calls_same (rpower_any _ _ (by unfold I64; omega) (by unfold I64; omega) _)) | (go_at_call 99; exact Mm.calls_ext (rchal_any _ _ d Hd.out _)))) | quiet_step ((first | (go_at_call 46; exact Mm.calls_same (rpower_any _ _ (by unfold I64; omega) (by unfold I64; omega) _)) | (go_at_call 99; exact Mm.calls_ext (rchal_any _ _ d Hd.out _)))))); refine wpQuiet_nil ?_
    intro w5 hb5
    go_wp2_with fail
    go_ret
    exact ⟨ret_bool (by first | exact He.out.symm | (rw [Int.tmod_eq_emod_of_nonneg m0]; exact He.out.symm)), bl_trans (by (repeat (first | with_reducible exact Below.refl _ _ | with_reducible refine bl_drewN ?_ _ | with_reducible refine Below.drew ?_ | with_reducible refine bl_alloc ?_ _ | with_reducible refine Below.alloc ?_ (by first | omega | (simp; done) | (simp; omega)) _ | with_reducible refine Below.setCell ?_ (by first | omega | (simp; done) | (simp; omega)) _ | with_reducible assumption))) hb5⟩
  · have He := Lib.hid (ver_no p r s (chal r p d) (by omega))
    go_enter Tryz.func62, Tryz.ntmps62
    go_wp2_with (go_at_call 98; refine (rmember_any _ _).mono ?_; rintro e w' ⟨rfl, rfl⟩)
    all_goals (first | (exfalso; omega) | (go_ret; exact ⟨ret_bool He.out.symm, by (repeat (first | with_reducible exact Below.refl _ _ | with_reducible refine bl_drewN ?_ _ | with_reducible refine Below.drew ?_ | with_reducible refine bl_alloc ?_ _ | with_reducible refine Below.alloc ?_ (by first | omega | (simp; done) | (simp; omega)) _ | with_reducible refine Below.setCell ?_ (by first | omega | (simp; done) | (simp; omega)) _ | with_reducible assumption))⟩))
end Go.Proofs.YtdikoffppjoomaaGreat.Sg
namespace Go.Proofs.YtdikoffppjoomaaGreat.Sg
open Go.RowKit Go.Proofs.YtdikoffppjoomaaGreat.Dg
open Go.Proofs.YtdikoffppjoomaaGreat.Mw (I64 ret_int ret_bool Bk bl_trans own_ints)
set_option linter.unusedVariables false
set_option linter.unusedSimpArgs false

theorem ver_signed (s : Int) (d : St) (h : val s = true) : ver (pw 4 s) (sR s d) (sS s d) (chal (sR s d) (pw 4 s) d) = true := by
  have h1 := val_bd h
  have h2 := non_bd s d
  have h3 := chal_bd (sR s d) (pw 4 s) d
  exact holds s (non s d) (chal (sR s d) (pw 4 s) d) (by omega) (by omega) (by omega)
theorem I64_pw (x n : Int) : I64 (pw x n) := by have := pw_bd x n; unfold I64; omega
theorem I64_sS (s : Int) (d : St) : I64 (sS s d) := by have := sS_bd s d; unfold I64; omega
theorem I64_sR (s : Int) (d : St) : I64 (sR s d) := by have := sR_bd s d; unfold I64; omega
theorem verify_yes (s : Int) (d : St) (hv : val s = true) (hd : Wd d) (w : World) :
    Calls Tryz.prog 59 #[.int .i64 (pw 4 s), dv d, sgv (sR s d) (sS s d)] w fun e w' => e = .returned (.bool true) ∧ Below w.heap.size w w' := by
  have := verify_any (pw 4 s) (sR s d) (sS s d) d (I64_pw _ _) (I64_sR _ _) (I64_sS _ _) hd w
  rwa [ver_signed s d hv] at this
theorem public_2 (w : World) : Calls Tryz.prog 43 #[.int .i64 2] w fun e w' => e = .returned (.tuple #[.int .i64 16, .int .i64 0]) ∧ w = w' := by
  have := public_yes 2 rfl w
  rwa [pub2] at this
theorem power_4 (w : World) : Calls Tryz.prog 84 #[.int .i64 4, .int .i64 1073741789] w fun e w' => e = .returned (.int .i64 1) ∧ w = w' := by
  have := power_any 4 1073741789 (by unfold I64; omega) (by unfold I64; omega) w
  rwa [order4] at this
theorem valid_1 (w : World) : Calls Tryz.prog 83 #[.int .i64 1] w fun e w' => e = .returned (.bool true) ∧ w = w' := valid_any 1 w
theorem valid_Q (w : World) : Calls Tryz.prog 83 #[.int .i64 1073741789] w fun e w' => e = .returned (.bool false) ∧ w = w' := valid_any 1073741789 w
theorem Wd1 : Wd (1, 2, 3, 4) := by unfold Wd; decide

end Go.Proofs.YtdikoffppjoomaaGreat.Sg
