/- Walk: Sealed. -/
import Derived.Test.YtdikoffppjoomaaGreatCP
import Derived.WalkKit
import Derived.WalkSpells
import Derived.WalkLawsBesides
import Derived.Deep.QuietTactic
import Derived.BigQuiet
import Derived.Deep.Draws
import Derived.Deep.AppendLies
import Derived.Laws.OwnMore
import Derived.Laws.BytesArg
import Derived.Lib.Hide
import Derived.Deep.LoopGhost
namespace Go.Proofs.YtdikoffppjoomaaGreat.Ct
open Go.RowKit Go.Proofs.YtdikoffppjoomaaGreat.Dg
open Go.Proofs.YtdikoffppjoomaaGreat.Mw (I64 ret_int ret_bool Bk bl_trans own_ints RdI RdR ge ge_lt gi ge_mem own_rows)
open Go.Proofs.YtdikoffppjoomaaGreat.Tr (RdD leaf root)
open Go.Proofs.YtdikoffppjoomaaGreat.Sg (Wd sgv val sR sS sign_yes sign_no)
set_option linter.unusedVariables false
set_option linter.unusedSimpArgs false
set_option maxRecDepth 100000

abbrev he0 : He := ⟨0, 0, (0, 0, 0, 0), (0, 0, 0, 0), 0, 0⟩
/-- The head of a log, not yet signed. -/
noncomputable def hd0 (l : List Le) : He := ⟨l.length, (cur l).length, root (l.map dgE), root ((cur l).map dgC), 0, 0⟩
noncomputable def hd1 (s : Int) (l : List Le) : He := { hd0 l with R := sR s (dgH (hd0 l)), S := sS s (dgH (hd0 l)) }
/-- What Sealed returns. -/
noncomputable def sld (s : Int) (l : List Le) : He × Int := if chk l = 0 then (if val s = true then (hd1 s l, 0) else (he0, 2)) else (he0, chk l)
theorem dgH_hd1 (s : Int) (l : List Le) : dgH (hd1 s l) = dgH (hd0 l) := rfl
theorem root_wd (l : List St) : Wd (root l) := by
  rcases (by omega : l.length = 0 ∨ l.length = 1 ∨ 2 ≤ l.length) with h | h | h
  · rw [Tr.root_0 l h]; exact words_wd _ _
  · rw [Tr.root_1 l h]; exact words_wd _ _
  · rw [Tr.root_2 l h]; exact words_wd _ _
set_option maxHeartbeats 4000000 in
theorem sealed_any (s : Int) (l : List Le) (A : Option Addr) (c : Nat) (w : World) (hs : I64 s) (hr : RdL w A l) (h64 : ∀ x, x ∈ l → Le64 x) : Calls Tryz.prog 11 #[.int .i64 s, .slice A l.length c] w fun e w' => e = .returned (.tuple #[hev (sld s l).1, .int .i64 (sld s l).2]) ∧ Below w.heap.size w w' := by
  have hr1 := hr.alloc (.cells #[.int .i64 0, .int .i64 0, .int .u32 0, .int .u32 0, .int .u32 0, .int .u32 0, .int .u32 0, .int .u32 0, .int .u32 0, .int .u32 0, .int .i64 0, .int .i64 0] 39)
  have HR := Lib.hid (read_any l A c _ hr1 h64)
  have HR1 := Lib.hid hr1
  have hZ : Bk (w.alloc (.cells #[.int .i64 0, .int .i64 0, .int .u32 0, .int .u32 0, .int .u32 0, .int .u32 0, .int .u32 0, .int .u32 0, .int .u32 0, .int .u32 0, .int .i64 0, .int .i64 0] 39)) w.heap.size 39 #[.int .i64 0, .int .i64 0, .int .u32 0, .int .u32 0, .int .u32 0, .int .u32 0, .int .u32 0, .int .u32 0, .int .u32 0, .int .u32 0, .int .i64 0, .int .i64 0] := Mw.Bk.new _ _ _
  have hb0 : Below w.heap.size w (w.alloc (.cells #[.int .i64 0, .int .i64 0, .int .u32 0, .int .u32 0, .int .u32 0, .int .u32 0, .int .u32 0, .int .u32 0, .int .u32 0, .int .u32 0, .int .i64 0, .int .i64 0] 39)) := by (repeat (first | with_reducible exact Below.refl _ _ | with_reducible refine bl_drewN ?_ _ | with_reducible refine Below.drew ?_ | with_reducible refine bl_alloc ?_ _ | with_reducible refine Below.alloc ?_ (by first | omega | (simp; done) | (simp; omega)) _ | with_reducible refine Below.setCell ?_ (by first | omega | (simp; done) | (simp; omega)) _ | with_reducible assumption))
  clear hr hr1 h64
  by_cases hz : chk l = 0
  · have z0 : (chk l != 0) = false := by rw [hz]; rfl
    have hV := V_chk hz
    have hle := (inv_of hV).len
    have hlc := len_curN l l.length
    have hcl : (cur l).length ≤ 1000 := by unfold cur; omega
    have HZ := Lib.hid hz
    have HV := Lib.hid hV
    have HSl : Hid (sld s l = if val s = true then (hd1 s l, 0) else (he0, 2)) := if_pos hz
    have hll : l.length ≤ 1000 := by omega
    have hd : (hd0 l).n = l.length ∧ (hd0 l).c = (cur l).length ∧ (hd0 l).r = root (l.map dgE) ∧ (hd0 l).l = root ((cur l).map dgC) := ⟨rfl, rfl, rfl, rfl⟩
    have HD := Lib.hid hd
    clear hz hV hlc hle hd
    go_enter Tryz.func11, Tryz.ntmps11
    go_wp2_with fail
    refine HR.out.mono ?_
    rintro e w1 ⟨v, rfl, hb1, hx⟩
    obtain ⟨g, b1, b2, b3, rfl, hM, -⟩ := hx HZ.out
    have hZ1 := hZ.old hb1
    have hb2 := bl_trans hb0 hb1
    have hr2 := HR1.out.old hb1
    clear hx hb0 hb1 hZ HR
    go_wp2_with fail
    refine (certs_any l g b1 b2 b3 w1 hM HV.out).mono ?_
    rintro e w2 ⟨v, rfl, hown, hb3⟩
    obtain ⟨B, cB, rfl, hcB, hrB, -⟩ := own_rows cfl_len (by omega) hown
    have hr3 := hr2.old hb3
    have hZ2 := hZ1.old hb3
    have hb4 := bl_trans hb2 hb3
    clear hM hown hr2 hZ1 hb2 hb3
    go_wp2_with fail
    refine (digestsL_any l A c w2 hll hr3).mono ?_
    rintro e w3 ⟨D, cD, rfl, hcD, hmD, hrD, hb5⟩
    generalize hds : l.map dgE = ds at hcD hrD HD ⊢
    have hdl : ds.length ≤ 1000 := by rw [← hds]; simp; omega
    have Hds := Lib.hid hds
    clear hds
    have hrB3 := hrB.old hb5
    have hZ3 := hZ2.old hb5
    have hb6 := bl_trans hb4 hb5
    clear hrB hr3 hZ2 hb4 hb5
    go_wp2_with fail
    refine (Tr.proot_ind ds.length ds D cD w3 (Nat.le_refl _) (by omega) hcD hmD hrD).mono ?_
    rintro e w4 ⟨rfl, hb7⟩
    rw [← HD.out.2.2.1]
    have hrB4 := hrB3.old hb7
    have hZ4 := hZ3.old hb7
    have hb8 := bl_trans hb6 hb7
    clear hrB3 hZ3 hb6 hb7 hrD
    go_wp2_with fail
    refine (digestsC_any (cur l) B cB w4 hcl hrB4).mono ?_
    rintro e w5 ⟨E, cE, rfl, hcE, hmE, hrE, hb9⟩
    generalize hes : (cur l).map dgC = es at hcE hrE HD ⊢
    have hel : es.length ≤ 1000 := by rw [← hes]; simp; omega
    have Hes := Lib.hid hes
    clear hes
    have hZ5 := hZ4.old hb9
    have hb10 := bl_trans hb8 hb9
    clear hrB4 hZ4 hb8 hb9
    go_wp2_with fail
    refine (Tr.proot_ind es.length es E cE w5 (Nat.le_refl _) (by omega) hcE hmE hrE).mono ?_
    rintro e w6 ⟨rfl, hb11⟩
    have hZ6 := hZ5.old hb11
    have hb12 := bl_trans hb10 hb11
    clear hrE hZ5 hb10 hb11
    rw [← HD.out.2.2.2]
    go_wp2_with fail
    have HQ : Hid (∀ W : World, Calls Tryz.prog 53 #[hev ⟨l.length, (cur l).length, (hd0 l).r, (hd0 l).l, 0, 0⟩] W fun e w' => e = .returned (dv (dgH (hd0 l))) ∧ Below W.heap.size W w') := fun W => sealing_any ⟨l.length, (cur l).length, (hd0 l).r, (hd0 l).l, 0, 0⟩ (root_wd _) (root_wd _) W
    have HF : Hid (hd1 s l = ⟨l.length, (cur l).length, (hd0 l).r, (hd0 l).l, sR s (dgH (hd0 l)), sS s (dgH (hd0 l))⟩) := rfl
    have hwd := dgH_wd (hd0 l)
    generalize dgH (hd0 l) = d at HQ HF hwd
    generalize (hd0 l).r = r0 at HQ HF ⊢
    generalize (hd0 l).l = l0 at HQ HF ⊢
    generalize hn0 : (l.length : Int) = n0 at HQ HF ⊢
    generalize hc0 : ((cur l).length : Int) = c0 at HQ HF ⊢
    clear hn0 hc0 HD hcl hll hcD hcE hdl hel
    refine (HQ.out _).mono ?_
    rintro e w7 ⟨rfl, hb13⟩
    have hN7 : Bk w7 w6.heap.size 39 #[.int .i64 n0, .int .i64 c0, .int .u32 r0.1, .int .u32 r0.2.1, .int .u32 r0.2.2.1, .int .u32 r0.2.2.2, .int .u32 l0.1, .int .u32 l0.2.1, .int .u32 l0.2.2.1, .int .u32 l0.2.2.2, .int .i64 0, .int .i64 0] := (Mw.Bk.new _ _ _).old hb13
    have hZ7 := (hZ6.alloc (.cells #[.int .i64 n0, .int .i64 c0, .int .u32 r0.1, .int .u32 r0.2.1, .int .u32 r0.2.2.1, .int .u32 r0.2.2.2, .int .u32 l0.1, .int .u32 l0.2.1, .int .u32 l0.2.2.1, .int .u32 l0.2.2.2, .int .i64 0, .int .i64 0] 39)).old hb13
    have hb14 := bl_trans (Mw.bl_alloc hb12 _) hb13
    have hne : w.heap.size < w6.heap.size := hZ6.lt
    have hbN : w.heap.size ≤ w6.heap.size := by omega
    clear hZ6 hb12 hb13 HQ
    cases hv : val s
    · have HSg := Lib.hid (sign_no s d hs hv w7)
      have HS2 : Hid (sld s l = (he0, 2)) := HSl.out.trans (if_neg (by rw [hv]; simp))
      clear hv HSl
      go_wp2_with fail
      refine HSg.out.mono ?_
      rintro e w8 ⟨rfl, hb15⟩
      have hN8 := hN7.old hb15
      have hZ8 := hZ7.old hb15
      have hb16 := bl_trans hb14 hb15
      clear HSg hN7 hZ7 hb14 hb15
      have zf := fun o => hN8.frozen o
      have yf := fun o => hZ8.frozen o
      have za := hN8.cell 10
      have zb := hN8.cell 11
      have zl := hN8.lt
      have y0 := hZ8.cell 0
      have y1 := hZ8.cell 1
      have y2 := hZ8.cell 2
      have y3 := hZ8.cell 3
      have y4 := hZ8.cell 4
      have y5 := hZ8.cell 5
      have y6 := hZ8.cell 6
      have y7 := hZ8.cell 7
      have y8 := hZ8.cell 8
      have y9 := hZ8.cell 9
      have ya := hZ8.cell 10
      have yb := hZ8.cell 11
      have yl := hZ8.lt
      have hZ9 := (hZ8.far (p := ⟨w6.heap.size, 10, none⟩) (Nat.ne_of_lt hne) (.int .i64 0)).far (p := ⟨w6.heap.size, 11, none⟩) (Nat.ne_of_lt hne) (.int .i64 0)
      go_wp2_with fail
      clear zf yf za zb zl y0 y1 y2 y3 y4 y5 y6 y7 y8 y9 ya yb yl
      have hBz := (Mw.Bk.set (Mw.Bk.set (Mw.Bk.set (Mw.Bk.set (Mw.Bk.set (Mw.Bk.set (Mw.Bk.set (Mw.Bk.set (Mw.Bk.set (Mw.Bk.set (Mw.Bk.set (Mw.Bk.set hZ9 0 (.int .i64 0)) 1 (.int .i64 0)) 2 (.int .u32 0)) 3 (.int .u32 0)) 4 (.int .u32 0)) 5 (.int .u32 0)) 6 (.int .u32 0)) 7 (.int .u32 0)) 8 (.int .u32 0)) 9 (.int .u32 0)) 10 (.int .i64 0)) 11 (.int .i64 0))
      simp only [List.setIfInBounds_toArray, List.set_cons_zero, List.set_cons_succ] at hBz
      have hbz : Below w.heap.size w ((((((((((((((w8.setCell ⟨w6.heap.size, 10, none⟩ (.int .i64 0)).setCell ⟨w6.heap.size, 11, none⟩ (.int .i64 0)).setCell ⟨w.heap.size, 0, none⟩ (.int .i64 0)).setCell ⟨w.heap.size, 1, none⟩ (.int .i64 0)).setCell ⟨w.heap.size, 2, none⟩ (.int .u32 0)).setCell ⟨w.heap.size, 3, none⟩ (.int .u32 0)).setCell ⟨w.heap.size, 4, none⟩ (.int .u32 0)).setCell ⟨w.heap.size, 5, none⟩ (.int .u32 0)).setCell ⟨w.heap.size, 6, none⟩ (.int .u32 0)).setCell ⟨w.heap.size, 7, none⟩ (.int .u32 0)).setCell ⟨w.heap.size, 8, none⟩ (.int .u32 0)).setCell ⟨w.heap.size, 9, none⟩ (.int .u32 0)).setCell ⟨w.heap.size, 10, none⟩ (.int .i64 0)).setCell ⟨w.heap.size, 11, none⟩ (.int .i64 0)) := by (repeat (first | with_reducible exact Below.refl _ _ | with_reducible refine bl_drewN ?_ _ | with_reducible refine Below.drew ?_ | with_reducible refine bl_alloc ?_ _ | with_reducible refine Below.alloc ?_ (by first | omega | (simp; done) | (simp; omega)) _ | with_reducible refine Below.setCell ?_ (by first | omega | (simp; done) | (simp; omega)) _ | with_reducible assumption))
      generalize ((((((((((((((w8.setCell ⟨w6.heap.size, 10, none⟩ (.int .i64 0)).setCell ⟨w6.heap.size, 11, none⟩ (.int .i64 0)).setCell ⟨w.heap.size, 0, none⟩ (.int .i64 0)).setCell ⟨w.heap.size, 1, none⟩ (.int .i64 0)).setCell ⟨w.heap.size, 2, none⟩ (.int .u32 0)).setCell ⟨w.heap.size, 3, none⟩ (.int .u32 0)).setCell ⟨w.heap.size, 4, none⟩ (.int .u32 0)).setCell ⟨w.heap.size, 5, none⟩ (.int .u32 0)).setCell ⟨w.heap.size, 6, none⟩ (.int .u32 0)).setCell ⟨w.heap.size, 7, none⟩ (.int .u32 0)).setCell ⟨w.heap.size, 8, none⟩ (.int .u32 0)).setCell ⟨w.heap.size, 9, none⟩ (.int .u32 0)).setCell ⟨w.heap.size, 10, none⟩ (.int .i64 0)).setCell ⟨w.heap.size, 11, none⟩ (.int .i64 0)) = wz at hBz hbz ⊢
      have k0 := hBz.cell 0
      have k1 := hBz.cell 1
      have k2 := hBz.cell 2
      have k3 := hBz.cell 3
      have k4 := hBz.cell 4
      have k5 := hBz.cell 5
      have k6 := hBz.cell 6
      have k7 := hBz.cell 7
      have k8 := hBz.cell 8
      have k9 := hBz.cell 9
      have k10 := hBz.cell 10
      have k11 := hBz.cell 11
      refine bodyPost_ret (v := .tuple #[hev he0, .int .i64 (2)]) (by simp [results, Tryz.results11, go_sem, k0, k1, k2, k3, k4, k5, k6, k7, k8, k9, k10, k11]) rfl ⟨by rw [HS2.out] <;> rfl, hbz⟩
    · have HSg := Lib.hid (sign_yes s d hv hwd w7)
      have HS2 : Hid (sld s l = (hd1 s l, 0)) := HSl.out.trans (if_pos hv)
      clear hv HSl
      generalize sR s d = SR at HSg HF
      generalize sS s d = SS at HSg HF
      go_wp2_with fail
      refine HSg.out.mono ?_
      rintro e w8 ⟨rfl, hb15⟩
      have hN8 := hN7.old hb15
      have hZ8 := hZ7.old hb15
      have hb16 := bl_trans hb14 hb15
      clear HSg hN7 hZ7 hb14 hb15
      have zf := fun o => hN8.frozen o
      have yf := fun o => hZ8.frozen o
      have x0 := hN8.cell 0
      have x1 := hN8.cell 1
      have x2 := hN8.cell 2
      have x3 := hN8.cell 3
      have x4 := hN8.cell 4
      have x5 := hN8.cell 5
      have x6 := hN8.cell 6
      have x7 := hN8.cell 7
      have x8 := hN8.cell 8
      have x9 := hN8.cell 9
      have xa := hN8.cell 10
      have xb := hN8.cell 11
      have zl := hN8.lt
      have y0 := hZ8.cell 0
      have y1 := hZ8.cell 1
      have y2 := hZ8.cell 2
      have y3 := hZ8.cell 3
      have y4 := hZ8.cell 4
      have y5 := hZ8.cell 5
      have y6 := hZ8.cell 6
      have y7 := hZ8.cell 7
      have y8 := hZ8.cell 8
      have y9 := hZ8.cell 9
      have ya := hZ8.cell 10
      have yb := hZ8.cell 11
      have yl := hZ8.lt
      have hZ9 := (hZ8.far (p := ⟨w6.heap.size, 10, none⟩) (Nat.ne_of_lt hne) (.int .i64 SR)).far (p := ⟨w6.heap.size, 11, none⟩) (Nat.ne_of_lt hne) (.int .i64 SS)
      go_wp2_with fail
      clear zf yf zl x0 x1 x2 x3 x4 x5 x6 x7 x8 x9 xa xb y0 y1 y2 y3 y4 y5 y6 y7 y8 y9 ya yb yl
      have hBz := (Mw.Bk.set (Mw.Bk.set (Mw.Bk.set (Mw.Bk.set (Mw.Bk.set (Mw.Bk.set (Mw.Bk.set (Mw.Bk.set (Mw.Bk.set (Mw.Bk.set (Mw.Bk.set (Mw.Bk.set hZ9 0 (.int .i64 n0)) 1 (.int .i64 c0)) 2 (.int .u32 r0.1)) 3 (.int .u32 r0.2.1)) 4 (.int .u32 r0.2.2.1)) 5 (.int .u32 r0.2.2.2)) 6 (.int .u32 l0.1)) 7 (.int .u32 l0.2.1)) 8 (.int .u32 l0.2.2.1)) 9 (.int .u32 l0.2.2.2)) 10 (.int .i64 SR)) 11 (.int .i64 SS))
      simp only [List.setIfInBounds_toArray, List.set_cons_zero, List.set_cons_succ] at hBz
      have hbz : Below w.heap.size w ((((((((((((((w8.setCell ⟨w6.heap.size, 10, none⟩ (.int .i64 SR)).setCell ⟨w6.heap.size, 11, none⟩ (.int .i64 SS)).setCell ⟨w.heap.size, 0, none⟩ (.int .i64 n0)).setCell ⟨w.heap.size, 1, none⟩ (.int .i64 c0)).setCell ⟨w.heap.size, 2, none⟩ (.int .u32 r0.1)).setCell ⟨w.heap.size, 3, none⟩ (.int .u32 r0.2.1)).setCell ⟨w.heap.size, 4, none⟩ (.int .u32 r0.2.2.1)).setCell ⟨w.heap.size, 5, none⟩ (.int .u32 r0.2.2.2)).setCell ⟨w.heap.size, 6, none⟩ (.int .u32 l0.1)).setCell ⟨w.heap.size, 7, none⟩ (.int .u32 l0.2.1)).setCell ⟨w.heap.size, 8, none⟩ (.int .u32 l0.2.2.1)).setCell ⟨w.heap.size, 9, none⟩ (.int .u32 l0.2.2.2)).setCell ⟨w.heap.size, 10, none⟩ (.int .i64 SR)).setCell ⟨w.heap.size, 11, none⟩ (.int .i64 SS)) := by (repeat (first | with_reducible exact Below.refl _ _ | with_reducible refine bl_drewN ?_ _ | with_reducible refine Below.drew ?_ | with_reducible refine bl_alloc ?_ _ | with_reducible refine Below.alloc ?_ (by first | omega | (simp; done) | (simp; omega)) _ | with_reducible refine Below.setCell ?_ (by first | omega | (simp; done) | (simp; omega)) _ | with_reducible assumption))
      generalize ((((((((((((((w8.setCell ⟨w6.heap.size, 10, none⟩ (.int .i64 SR)).setCell ⟨w6.heap.size, 11, none⟩ (.int .i64 SS)).setCell ⟨w.heap.size, 0, none⟩ (.int .i64 n0)).setCell ⟨w.heap.size, 1, none⟩ (.int .i64 c0)).setCell ⟨w.heap.size, 2, none⟩ (.int .u32 r0.1)).setCell ⟨w.heap.size, 3, none⟩ (.int .u32 r0.2.1)).setCell ⟨w.heap.size, 4, none⟩ (.int .u32 r0.2.2.1)).setCell ⟨w.heap.size, 5, none⟩ (.int .u32 r0.2.2.2)).setCell ⟨w.heap.size, 6, none⟩ (.int .u32 l0.1)).setCell ⟨w.heap.size, 7, none⟩ (.int .u32 l0.2.1)).setCell ⟨w.heap.size, 8, none⟩ (.int .u32 l0.2.2.1)).setCell ⟨w.heap.size, 9, none⟩ (.int .u32 l0.2.2.2)).setCell ⟨w.heap.size, 10, none⟩ (.int .i64 SR)).setCell ⟨w.heap.size, 11, none⟩ (.int .i64 SS)) = wz at hBz hbz ⊢
      have k0 := hBz.cell 0
      have k1 := hBz.cell 1
      have k2 := hBz.cell 2
      have k3 := hBz.cell 3
      have k4 := hBz.cell 4
      have k5 := hBz.cell 5
      have k6 := hBz.cell 6
      have k7 := hBz.cell 7
      have k8 := hBz.cell 8
      have k9 := hBz.cell 9
      have k10 := hBz.cell 10
      have k11 := hBz.cell 11
      refine bodyPost_ret (v := .tuple #[.agg #[.int .i64 n0, .int .i64 c0, .int .u32 r0.1, .int .u32 r0.2.1, .int .u32 r0.2.2.1, .int .u32 r0.2.2.2, .int .u32 l0.1, .int .u32 l0.2.1, .int .u32 l0.2.2.1, .int .u32 l0.2.2.2, .int .i64 SR, .int .i64 SS], .int .i64 (0)]) (by simp [results, Tryz.results11, go_sem, k0, k1, k2, k3, k4, k5, k6, k7, k8, k9, k10, k11]) rfl ⟨by rw [HS2.out, HF.out] <;> rfl, hbz⟩
  · have z0 : (chk l != 0) = true := bne_iff_ne.2 hz
    have HSl : Hid (sld s l = (he0, chk l)) := if_neg hz
    clear hz
    go_enter Tryz.func11, Tryz.ntmps11
    go_wp2_with fail
    refine HR.out.mono ?_
    rintro e w2 ⟨v, rfl, hb1, -⟩
    have hZ2 := hZ.old hb1
    have hb2 := bl_trans hb0 hb1
    clear hb0 hb1 hZ HR
    have zf := fun o => hZ2.frozen o
    have z0 := hZ2.cell 0
    have z1 := hZ2.cell 1
    have z2 := hZ2.cell 2
    have z3 := hZ2.cell 3
    have z4 := hZ2.cell 4
    have z5 := hZ2.cell 5
    have z6 := hZ2.cell 6
    have z7 := hZ2.cell 7
    have z8 := hZ2.cell 8
    have z9 := hZ2.cell 9
    have za := hZ2.cell 10
    have zb := hZ2.cell 11
    have zl := hZ2.lt
    go_wp2_with fail
    clear zf z0 z1 z2 z3 z4 z5 z6 z7 z8 z9 za zb zl
    have hBz := (Mw.Bk.set (Mw.Bk.set (Mw.Bk.set (Mw.Bk.set (Mw.Bk.set (Mw.Bk.set (Mw.Bk.set (Mw.Bk.set (Mw.Bk.set (Mw.Bk.set (Mw.Bk.set (Mw.Bk.set hZ2 0 (.int .i64 0)) 1 (.int .i64 0)) 2 (.int .u32 0)) 3 (.int .u32 0)) 4 (.int .u32 0)) 5 (.int .u32 0)) 6 (.int .u32 0)) 7 (.int .u32 0)) 8 (.int .u32 0)) 9 (.int .u32 0)) 10 (.int .i64 0)) 11 (.int .i64 0))
    simp only [List.setIfInBounds_toArray, List.set_cons_zero, List.set_cons_succ] at hBz
    have hbz : Below w.heap.size w ((((((((((((w2.setCell ⟨w.heap.size, 0, none⟩ (.int .i64 0)).setCell ⟨w.heap.size, 1, none⟩ (.int .i64 0)).setCell ⟨w.heap.size, 2, none⟩ (.int .u32 0)).setCell ⟨w.heap.size, 3, none⟩ (.int .u32 0)).setCell ⟨w.heap.size, 4, none⟩ (.int .u32 0)).setCell ⟨w.heap.size, 5, none⟩ (.int .u32 0)).setCell ⟨w.heap.size, 6, none⟩ (.int .u32 0)).setCell ⟨w.heap.size, 7, none⟩ (.int .u32 0)).setCell ⟨w.heap.size, 8, none⟩ (.int .u32 0)).setCell ⟨w.heap.size, 9, none⟩ (.int .u32 0)).setCell ⟨w.heap.size, 10, none⟩ (.int .i64 0)).setCell ⟨w.heap.size, 11, none⟩ (.int .i64 0)) := by (repeat (first | with_reducible exact Below.refl _ _ | with_reducible refine bl_drewN ?_ _ | with_reducible refine Below.drew ?_ | with_reducible refine bl_alloc ?_ _ | with_reducible refine Below.alloc ?_ (by first | omega | (simp; done) | (simp; omega)) _ | with_reducible refine Below.setCell ?_ (by first | omega | (simp; done) | (simp; omega)) _ | with_reducible assumption))
    generalize ((((((((((((w2.setCell ⟨w.heap.size, 0, none⟩ (.int .i64 0)).setCell ⟨w.heap.size, 1, none⟩ (.int .i64 0)).setCell ⟨w.heap.size, 2, none⟩ (.int .u32 0)).setCell ⟨w.heap.size, 3, none⟩ (.int .u32 0)).setCell ⟨w.heap.size, 4, none⟩ (.int .u32 0)).setCell ⟨w.heap.size, 5, none⟩ (.int .u32 0)).setCell ⟨w.heap.size, 6, none⟩ (.int .u32 0)).setCell ⟨w.heap.size, 7, none⟩ (.int .u32 0)).setCell ⟨w.heap.size, 8, none⟩ (.int .u32 0)).setCell ⟨w.heap.size, 9, none⟩ (.int .u32 0)).setCell ⟨w.heap.size, 10, none⟩ (.int .i64 0)).setCell ⟨w.heap.size, 11, none⟩ (.int .i64 0)) = wz at hBz hbz ⊢
    have k0 := hBz.cell 0
    have k1 := hBz.cell 1
    have k2 := hBz.cell 2
    have k3 := hBz.cell 3
    have k4 := hBz.cell 4
    have k5 := hBz.cell 5
    have k6 := hBz.cell 6
    have k7 := hBz.cell 7
    have k8 := hBz.cell 8
    have k9 := hBz.cell 9
    have k10 := hBz.cell 10
    have k11 := hBz.cell 11
    refine bodyPost_ret (v := .tuple #[hev he0, .int .i64 (chk l)]) (by simp [results, Tryz.results11, go_sem, k0, k1, k2, k3, k4, k5, k6, k7, k8, k9, k10, k11]) rfl ⟨by rw [HSl.out] <;> rfl, hbz⟩
end Go.Proofs.YtdikoffppjoomaaGreat.Ct
