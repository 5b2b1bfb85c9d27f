/- Walks: leads, Verify; words are words. -/
import Derived.Test.YtdikoffppjoomaaGreatCO
import Derived.Test.YtdikoffppjoomaaGreatMem
import Derived.WalkKit
import Derived.WalkSpells
import Derived.WalkLawsBesides
import Derived.Deep.QuietTactic
import Derived.BigQuiet
import Derived.Deep.Draws
import Derived.Deep.AppendLies
import Derived.Laws.OwnMore
import Derived.Laws.BytesArg
import Derived.Lib.Hide
import Derived.Deep.LoopGhost
namespace Go.Proofs.YtdikoffppjoomaaGreat.Ct
open Go.RowKit Go.Proofs.YtdikoffppjoomaaGreat.Dg
open Go.Proofs.YtdikoffppjoomaaGreat.Mw (I64 ret_int ret_bool Bk bl_trans own_ints RdI RdR ge ge_lt gi ge_mem own_rows)
open Go.Proofs.YtdikoffppjoomaaGreat.Tr (RdD leaf leaf_any leadE plead_any root bk4)
open Go.Proofs.YtdikoffppjoomaaGreat.Sg (Wd sgv ver chal)
open Go.Proofs.YtdikoffppjoomaaGreat.Mm (RC.call)
set_option linter.unusedVariables false
set_option linter.unusedSimpArgs false
set_option maxRecDepth 100000
attribute [local go_sem] eq_dig

theorem wrap_W (x : Int) : 0 ≤ IntKind.u32.wrap x ∧ IntKind.u32.wrap x < 4294967296 := by rw [IntKind.wrap_u32]; omega
theorem bits_W (o : BinOp) (a b : Int) : 0 ≤ bits o .u32 a b ∧ bits o .u32 a b < 4294967296 := by
  unfold bits
  cases o <;> exact wrap_W _
theorem perm_wd (s : St) : Wd (perm s) := by
  rw [perm_eq, show itr 12 s = rnd (itr 11 s) from rfl]
  generalize itr 11 s = z
  refine ⟨?_, bits_W .xor _ _, bits_W .or _ _, bits_W .xor _ _⟩
  show 0 ≤ add32 _ _ ∧ add32 _ _ < 4294967296
  unfold add32; omega
theorem words_wd (tag : Int) (l : List Int) : Wd (words tag l) := perm_wd _
theorem dgH_wd (h : He) : Wd (dgH h) := words_wd _ _
theorem leads_any (d : St) (i n : Int) (p : List St) (A : Option Addr) (c : Nat) (r : St) (w : World) (hl : p.length ≤ 1000000) (hlc : p.length ≤ c) (hcm : c ≤ maxLen) (hr : RdD w A p) :
    Calls Tryz.prog 60 #[dv d, .int .i64 i, .int .i64 n, .slice A p.length c, dv r] w fun e w' => e = .returned (.bool (ldE d i n p r)) ∧ Below w.heap.size w w' := by
  have HP := Lib.hid (show ∀ W : World, Below w.heap.size w W → Calls Tryz.prog 96 #[dv (leaf d), .int .i64 i, .int .i64 n, .slice A p.length c] W (Tr.LE (leadE (leaf d) i n p) W) from fun W hb => plead_any (leaf d) i n p A c W hl hlc hcm (hr.old hb))
  have HL : Hid (ldE d i n p r = (decide ((leadE (leaf d) i n p).2 = 0) && eqb (leadE (leaf d) i n p).1 r)) := rfl
  generalize leadE (leaf d) i n p = X at HP HL
  obtain ⟨y, er⟩ := X
  clear hr
  have hb0 : Below w.heap.size w ((w.alloc (.cells #[.int .u32 d.1, .int .u32 d.2.1, .int .u32 d.2.2.1, .int .u32 d.2.2.2] 35)).alloc (.cells #[.int .u32 r.1, .int .u32 r.2.1, .int .u32 r.2.2.1, .int .u32 r.2.2.2] 35)) := by (repeat (first | with_reducible exact Below.refl _ _ | with_reducible refine bl_drewN ?_ _ | with_reducible refine Below.drew ?_ | with_reducible refine bl_alloc ?_ _ | with_reducible refine Below.alloc ?_ (by first | omega | (simp; done) | (simp; omega)) _ | with_reducible refine Below.setCell ?_ (by first | omega | (simp; done) | (simp; omega)) _ | with_reducible assumption))
  by_cases he : er = 0
  · have e0 : (er == 0) = true := by rw [he]; rfl
    have HE := Lib.hid (HL.out.trans (by rw [he]; rfl : _ = eqb y r))
    clear he HL
    go_enter Tryz.func60, Tryz.ntmps60
    go_wp2_with fail
    refine (leaf_any d _).mono ?_
    rintro e w1 ⟨rfl, hb1⟩
    have hR1 : Bk w1 (w.heap.size + 1) 35 #[.int .u32 r.1, .int .u32 r.2.1, .int .u32 r.2.2.1, .int .u32 r.2.2.2] := Mw.Bk.old (Mw.Bk.new' (by simp)) hb1
    have hc1 := bl_trans hb0 hb1
    clear hb1 hb0
    go_wp2_with fail
    refine (HP.out _ hc1).mono ?_
    rintro e w2 ⟨rfl, hb2⟩
    have hR2 := hR1.old hb2
    have hc2 := bl_trans hc1 hb2
    have r0 := hR2.cell 0
    have r1 := hR2.cell 1
    have r2 := hR2.cell 2
    have r3 := hR2.cell 3
    have rl := hR2.lt
    clear hR1 hb2 hc1 HP
    go_wp2_with fail
    go_ret
    exact ⟨ret_bool HE.out.symm, by (repeat (first | with_reducible exact Below.refl _ _ | with_reducible refine bl_drewN ?_ _ | with_reducible refine Below.drew ?_ | with_reducible refine bl_alloc ?_ _ | with_reducible refine Below.alloc ?_ (by first | omega | (simp; done) | (simp; omega)) _ | with_reducible refine Below.setCell ?_ (by first | omega | (simp; done) | (simp; omega)) _ | with_reducible assumption))⟩
  · have e0 : (er == 0) = false := beq_eq_false_iff_ne.2 he
    have HE := Lib.hid (HL.out.trans (by rw [decide_eq_false he]; rfl : _ = false))
    clear he HL
    go_enter Tryz.func60, Tryz.ntmps60
    go_wp2_with fail
    refine (leaf_any d _).mono ?_
    rintro e w1 ⟨rfl, hb1⟩
    have hc1 := bl_trans hb0 hb1
    clear hb1 hb0
    go_wp2_with fail
    refine (HP.out _ hc1).mono ?_
    rintro e w2 ⟨rfl, hb2⟩
    have hc2 := bl_trans hc1 hb2
    clear hb2 hc1 HP
    go_wp2_with fail
    go_ret
    exact ⟨ret_bool HE.out.symm, by (repeat (first | with_reducible exact Below.refl _ _ | with_reducible refine bl_drewN ?_ _ | with_reducible refine Below.drew ?_ | with_reducible refine bl_alloc ?_ _ | with_reducible refine Below.alloc ?_ (by first | omega | (simp; done) | (simp; omega)) _ | with_reducible refine Below.setCell ?_ (by first | omega | (simp; done) | (simp; omega)) _ | with_reducible assumption))⟩
/-- What Verify returns. -/
noncomputable def vrf (p : Int) (h : He) (c : Cf) (i j : Int) (pa sp : List St) : Int :=
  if vld c = false then 1 else if ver p h.R h.S (chal h.R p (dgH h)) = false then 45 else if ldE (dgE ⟨0, c⟩) i h.n pa h.r = false then 44 else if ldE (dgC c) j h.c sp h.l = false then 46 else 0
set_option maxHeartbeats 4000000 in
theorem verify_any (p : Int) (h : He) (c : Cf) (i j : Int) (pa sp : List St) (A B : Option Addr) (ca cb : Nat) (w : World) (hp : I64 p) (hR : I64 h.R) (hS : I64 h.S) (hr : Wd h.r) (hl : Wd h.l)
    (hl1 : pa.length ≤ 1000000) (hc1 : pa.length ≤ ca) (hm1 : ca ≤ maxLen) (hA : RdD w A pa) (hl2 : sp.length ≤ 1000000) (hc2 : sp.length ≤ cb) (hm2 : cb ≤ maxLen) (hB : RdD w B sp) :
    Calls Tryz.prog 14 #[.int .i64 p, hev h, cfv c, .agg #[.int .i64 i, .int .i64 j, .slice A pa.length ca, .slice B sp.length cb]] w fun e w' => e = .returned (.int .i64 (vrf p h c i j pa sp)) ∧ Below w.heap.size w w' := by
  have HV := Lib.hid (valid_any c)
  cases hv : vld c
  · have H : Hid (vrf p h c i j pa sp = 1) := if_pos hv
    rw [hv] at HV
    rw [H.out]
    clear hA hB hv hr hl
    go_enter Tryz.func14, Tryz.ntmps14
    go_wp2_with fail
    refine (HV.out _).mono ?_
    rintro e w1 ⟨rfl, hb1⟩
    go_wp2_with fail
    go_ret
    exact ⟨rfl, bl_trans (by (repeat (first | with_reducible exact Below.refl _ _ | with_reducible refine bl_drewN ?_ _ | with_reducible refine Below.drew ?_ | with_reducible refine bl_alloc ?_ _ | with_reducible refine Below.alloc ?_ (by first | omega | (simp; done) | (simp; omega)) _ | with_reducible refine Below.setCell ?_ (by first | omega | (simp; done) | (simp; omega)) _ | with_reducible assumption))) hb1⟩
  have H1 : Hid (vrf p h c i j pa sp = if ver p h.R h.S (chal h.R p (dgH h)) = false then 45 else if ldE (dgE ⟨0, c⟩) i h.n pa h.r = false then 44 else if ldE (dgC c) j h.c sp h.l = false then 46 else 0) := if_neg (by rw [hv]; simp)
  rw [hv] at HV
  clear hv
  have HA := Lib.hid hA
  have HB := Lib.hid hB
  have HSe : Hid (∀ W : World, Calls Tryz.prog 53 #[hev h] W fun e w' => e = .returned (dv (dgH h)) ∧ Below W.heap.size W w') := fun W => sealing_any h hr hl W
  have HVe : Hid (∀ W : World, Calls Tryz.prog 59 #[.int .i64 p, dv (dgH h), sgv h.R h.S] W fun e w' => e = .returned (.bool (ver p h.R h.S (chal h.R p (dgH h)))) ∧ Below W.heap.size W w') := fun W => Sg.verify_any p h.R h.S (dgH h) hp hR hS (dgH_wd h) W
  have HL1 : Hid (∀ W : World, Below w.heap.size w W → Calls Tryz.prog 60 #[dv (dgE ⟨0, c⟩), .int .i64 i, .int .i64 h.n, .slice A pa.length ca, dv h.r] W fun e w' => e = .returned (.bool (ldE (dgE ⟨0, c⟩) i h.n pa h.r)) ∧ Below W.heap.size W w') := fun W hb => leads_any _ i h.n pa A ca h.r W hl1 hc1 hm1 (HA.out.old hb)
  have HL2 : Hid (∀ W : World, Below w.heap.size w W → Calls Tryz.prog 60 #[dv (dgC c), .int .i64 j, .int .i64 h.c, .slice B sp.length cb, dv h.l] W fun e w' => e = .returned (.bool (ldE (dgC c) j h.c sp h.l)) ∧ Below W.heap.size W w') := fun W hb => leads_any _ j h.c sp B cb h.l W hl2 hc2 hm2 (HB.out.old hb)
  clear hA hB hr hl
  generalize ver p h.R h.S (chal h.R p (dgH h)) = v1 at *
  generalize ldE (dgE ⟨0, c⟩) i h.n pa h.r = v2 at *
  generalize ldE (dgC c) j h.c sp h.l = v3 at *
  go_enter Tryz.func14, Tryz.ntmps14
  go_wp2_with fail
  refine (HV.out _).mono ?_
  rintro e w1 ⟨rfl, hb1⟩
  have hH : Bk w1 w.heap.size 39 (hcl h) := Mw.Bk.old (((Mw.Bk.new _ _ _).alloc _).alloc _) hb1
  have hC : Bk w1 (w.heap.size + 1) 46 #[.int .i64 c.i, .int .i64 c.c, .int .i64 c.g, .int .i64 c.t, .int .i64 c.r] := Mw.Bk.old ((Mw.Bk.new' (by simp)).alloc _) hb1
  have hP : Bk w1 (w.heap.size + 2) 49 #[.int .i64 i, .int .i64 j, .slice A pa.length ca, .slice B sp.length cb] := Mw.Bk.old (Mw.Bk.new' (by simp)) hb1
  have hb2 : Below w.heap.size w w1 := bl_trans (by (repeat (first | with_reducible exact Below.refl _ _ | with_reducible refine bl_drewN ?_ _ | with_reducible refine Below.drew ?_ | with_reducible refine bl_alloc ?_ _ | with_reducible refine Below.alloc ?_ (by first | omega | (simp; done) | (simp; omega)) _ | with_reducible refine Below.setCell ?_ (by first | omega | (simp; done) | (simp; omega)) _ | with_reducible assumption))) hb1
  clear hb1 HV
  have x0 : w1.cell? ⟨w.heap.size, 0, none⟩ = some (.int .i64 h.n) := hH.cell 0
  have x1 : w1.cell? ⟨w.heap.size, 1, none⟩ = some (.int .i64 h.c) := hH.cell 1
  have x2 : w1.cell? ⟨w.heap.size, 2, none⟩ = some (.int .u32 h.r.1) := hH.cell 2
  have x3 : w1.cell? ⟨w.heap.size, 3, none⟩ = some (.int .u32 h.r.2.1) := hH.cell 3
  have x4 : w1.cell? ⟨w.heap.size, 4, none⟩ = some (.int .u32 h.r.2.2.1) := hH.cell 4
  have x5 : w1.cell? ⟨w.heap.size, 5, none⟩ = some (.int .u32 h.r.2.2.2) := hH.cell 5
  have x6 : w1.cell? ⟨w.heap.size, 6, none⟩ = some (.int .u32 h.l.1) := hH.cell 6
  have x7 : w1.cell? ⟨w.heap.size, 7, none⟩ = some (.int .u32 h.l.2.1) := hH.cell 7
  have x8 : w1.cell? ⟨w.heap.size, 8, none⟩ = some (.int .u32 h.l.2.2.1) := hH.cell 8
  have x9 : w1.cell? ⟨w.heap.size, 9, none⟩ = some (.int .u32 h.l.2.2.2) := hH.cell 9
  have xa : w1.cell? ⟨w.heap.size, 10, none⟩ = some (.int .i64 h.R) := hH.cell 10
  have xb : w1.cell? ⟨w.heap.size, 11, none⟩ = some (.int .i64 h.S) := hH.cell 11
  have xl := hH.lt
  have R1 : Mm.RC 53 #[hev h] w1 (dv (dgH h)) := Mm.RC.of fun W _ => HSe.out W
  have R2 : Mm.RC 59 #[.int .i64 p, dv (dgH h), sgv h.R h.S] w1 (.bool v1) := Mm.RC.of fun W _ => HVe.out W
  go_wp2_with fail
  refine Mm.region_ext (by kernel_rfl) (by kernel_rfl) ?_; (repeat (first | go_big_quiet_step ((exact Mm.RC.call (by with_reducible assumption) _)) | quiet_step ((exact Mm.RC.call (by with_reducible assumption) _)))); refine wpQuiet_nil ?_
  intro w2 hb3
  have hH2 := hH.old hb3
  have hC2 := hC.old hb3
  have hP2 := hP.old hb3
  have hb4 := bl_trans hb2 hb3
  clear hH hC hP hb2 hb3 R1 R2 x0 x1 x2 x3 x4 x5 x6 x7 x8 x9 xa xb xl
  cases v1
  · have H : Hid (vrf p h c i j pa sp = 45) := H1.out.trans (if_pos rfl)
    clear H1
    go_wp2_with fail
    go_ret
    exact ⟨by rw [H.out] <;> rfl, hb4⟩
  have H2 := Lib.hid (H1.out.trans (if_neg (by simp)))
  clear H1
  have c0 := hC2.cell 0
  have c1 := hC2.cell 1
  have c2 := hC2.cell 2
  have c3 := hC2.cell 3
  have c4 := hC2.cell 4
  have cl := hC2.lt
  go_wp2_with fail
  clear c0 c1 c2 c3 c4 cl
  have hE3 : Bk (w2.alloc (.cells #[.int .i64 0, .int .i64 c.i, .int .i64 c.c, .int .i64 c.g, .int .i64 c.t, .int .i64 c.r] 54)) w2.heap.size 54 #[.int .i64 0, .int .i64 c.i, .int .i64 c.c, .int .i64 c.g, .int .i64 c.t, .int .i64 c.r] := Mw.Bk.new _ _ _
  have hH3 := hH2.alloc (.cells #[.int .i64 0, .int .i64 c.i, .int .i64 c.c, .int .i64 c.g, .int .i64 c.t, .int .i64 c.r] 54)
  have hC3 := hC2.alloc (.cells #[.int .i64 0, .int .i64 c.i, .int .i64 c.c, .int .i64 c.g, .int .i64 c.t, .int .i64 c.r] 54)
  have hP3 := hP2.alloc (.cells #[.int .i64 0, .int .i64 c.i, .int .i64 c.c, .int .i64 c.g, .int .i64 c.t, .int .i64 c.r] 54)
  have hb5 := Mw.bl_alloc hb4 (.cells #[.int .i64 0, .int .i64 c.i, .int .i64 c.c, .int .i64 c.g, .int .i64 c.t, .int .i64 c.r] 54)
  generalize w2.alloc (.cells #[.int .i64 0, .int .i64 c.i, .int .i64 c.c, .int .i64 c.g, .int .i64 c.t, .int .i64 c.r] 54) = w3 at hE3 hH3 hC3 hP3 hb5 ⊢
  have y0 := hE3.cell 0
  have y1 := hE3.cell 1
  have y2 := hE3.cell 2
  have y3 := hE3.cell 3
  have y4 := hE3.cell 4
  have y5 := hE3.cell 5
  have yl := hE3.lt
  have x0 : w3.cell? ⟨w.heap.size, 0, none⟩ = some (.int .i64 h.n) := hH3.cell 0
  have x1 : w3.cell? ⟨w.heap.size, 1, none⟩ = some (.int .i64 h.c) := hH3.cell 1
  have x2 : w3.cell? ⟨w.heap.size, 2, none⟩ = some (.int .u32 h.r.1) := hH3.cell 2
  have x3 : w3.cell? ⟨w.heap.size, 3, none⟩ = some (.int .u32 h.r.2.1) := hH3.cell 3
  have x4 : w3.cell? ⟨w.heap.size, 4, none⟩ = some (.int .u32 h.r.2.2.1) := hH3.cell 4
  have x5 : w3.cell? ⟨w.heap.size, 5, none⟩ = some (.int .u32 h.r.2.2.2) := hH3.cell 5
  have x6 : w3.cell? ⟨w.heap.size, 6, none⟩ = some (.int .u32 h.l.1) := hH3.cell 6
  have x7 : w3.cell? ⟨w.heap.size, 7, none⟩ = some (.int .u32 h.l.2.1) := hH3.cell 7
  have x8 : w3.cell? ⟨w.heap.size, 8, none⟩ = some (.int .u32 h.l.2.2.1) := hH3.cell 8
  have x9 : w3.cell? ⟨w.heap.size, 9, none⟩ = some (.int .u32 h.l.2.2.2) := hH3.cell 9
  have xa : w3.cell? ⟨w.heap.size, 10, none⟩ = some (.int .i64 h.R) := hH3.cell 10
  have xb : w3.cell? ⟨w.heap.size, 11, none⟩ = some (.int .i64 h.S) := hH3.cell 11
  have xl := hH3.lt
  have p0 := hP3.cell 0
  have p1 := hP3.cell 1
  have p2 := hP3.cell 2
  have p3 := hP3.cell 3
  have pl := hP3.lt
  have R1 : Mm.RC 31 #[lev ⟨0, c⟩] w3 (dv (dgE ⟨0, c⟩)) := Mm.RC.of fun W _ => entry_any ⟨0, c⟩ W
  have R2 : Mm.RC 60 #[dv (dgE ⟨0, c⟩), .int .i64 i, .int .i64 h.n, .slice A pa.length ca, dv h.r] w3 (.bool v2) := Mm.RC.of fun W hb => HL1.out W (bl_trans hb5 hb)
  refine Mm.region_ext (by kernel_rfl) (by kernel_rfl) ?_; (repeat (first | go_big_quiet_step ((exact Mm.RC.call (by with_reducible assumption) _)) | quiet_step ((exact Mm.RC.call (by with_reducible assumption) _)))); refine wpQuiet_nil ?_
  intro w4 hb6
  have hH4 := hH3.old hb6
  have hC4 := hC3.old hb6
  have hP4 := hP3.old hb6
  have hb7 := bl_trans hb5 hb6
  clear y0 y1 y2 y3 y4 y5 yl hE3 hH3 hC3 hP3 hb5 hb6 R1 R2 hH2 hC2 hP2 hb4
  clear x0 x1 x2 x3 x4 x5 x6 x7 x8 x9 xa xb xl
  clear p0 p1 p2 p3 pl
  cases v2
  · have H : Hid (vrf p h c i j pa sp = 44) := H2.out.trans (if_pos rfl)
    clear H2
    go_wp2_with fail
    go_ret
    exact ⟨by rw [H.out] <;> rfl, hb7⟩
  have H3 := Lib.hid (H2.out.trans (if_neg (by simp)))
  clear H2
  have x0 : w4.cell? ⟨w.heap.size, 0, none⟩ = some (.int .i64 h.n) := hH4.cell 0
  have x1 : w4.cell? ⟨w.heap.size, 1, none⟩ = some (.int .i64 h.c) := hH4.cell 1
  have x2 : w4.cell? ⟨w.heap.size, 2, none⟩ = some (.int .u32 h.r.1) := hH4.cell 2
  have x3 : w4.cell? ⟨w.heap.size, 3, none⟩ = some (.int .u32 h.r.2.1) := hH4.cell 3
  have x4 : w4.cell? ⟨w.heap.size, 4, none⟩ = some (.int .u32 h.r.2.2.1) := hH4.cell 4
  have x5 : w4.cell? ⟨w.heap.size, 5, none⟩ = some (.int .u32 h.r.2.2.2) := hH4.cell 5
  have x6 : w4.cell? ⟨w.heap.size, 6, none⟩ = some (.int .u32 h.l.1) := hH4.cell 6
  have x7 : w4.cell? ⟨w.heap.size, 7, none⟩ = some (.int .u32 h.l.2.1) := hH4.cell 7
  have x8 : w4.cell? ⟨w.heap.size, 8, none⟩ = some (.int .u32 h.l.2.2.1) := hH4.cell 8
  have x9 : w4.cell? ⟨w.heap.size, 9, none⟩ = some (.int .u32 h.l.2.2.2) := hH4.cell 9
  have xa : w4.cell? ⟨w.heap.size, 10, none⟩ = some (.int .i64 h.R) := hH4.cell 10
  have xb : w4.cell? ⟨w.heap.size, 11, none⟩ = some (.int .i64 h.S) := hH4.cell 11
  have xl := hH4.lt
  have p0 := hP4.cell 0
  have p1 := hP4.cell 1
  have p2 := hP4.cell 2
  have p3 := hP4.cell 3
  have pl := hP4.lt
  have c0 := hC4.cell 0
  have c1 := hC4.cell 1
  have c2 := hC4.cell 2
  have c3 := hC4.cell 3
  have c4 := hC4.cell 4
  have cl := hC4.lt
  have R1 : Mm.RC 21 #[cfv c] w4 (dv (dgC c)) := Mm.RC.of fun W _ => digest_any c W
  have R2 : Mm.RC 60 #[dv (dgC c), .int .i64 j, .int .i64 h.c, .slice B sp.length cb, dv h.l] w4 (.bool v3) := Mm.RC.of fun W hb => HL2.out W (bl_trans hb7 hb)
  go_wp2_with fail
  refine Mm.region_ext (by kernel_rfl) (by kernel_rfl) ?_; (repeat (first | go_big_quiet_step ((exact Mm.RC.call (by with_reducible assumption) _)) | quiet_step ((exact Mm.RC.call (by with_reducible assumption) _)))); refine wpQuiet_nil ?_
  intro w5 hb8
  have hb9 := bl_trans hb7 hb8
  clear R1 R2 hH4 hC4 hP4 hb7 hb8
  clear x0 x1 x2 x3 x4 x5 x6 x7 x8 x9 xa xb xl
  clear p0 p1 p2 p3 pl
  clear c0 c1 c2 c3 c4 cl
  cases v3
  · have H : Hid (vrf p h c i j pa sp = 46) := H3.out.trans (if_pos rfl)
    clear H3
    go_wp2_with fail
    go_ret
    exact ⟨by rw [H.out] <;> rfl, hb9⟩
  have H : Hid (vrf p h c i j pa sp = 0) := H3.out.trans (if_neg (by simp))
  clear H3
  go_wp2_with fail
  go_ret
  exact ⟨by rw [H.out] <;> rfl, hb9⟩
end Go.Proofs.YtdikoffppjoomaaGreat.Ct
