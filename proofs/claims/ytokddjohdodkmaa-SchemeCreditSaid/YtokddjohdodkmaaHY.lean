/- Walk: the statement SchemeCredit. -/
import Derived.Test.YtokddjohdodkmaaHX
import Derived.Test.YtokddjohdodkmaaHJ
import Derived.Test.YtokddjohdodkmaaHH
import Derived.WalkKit
import Derived.WalkSpells
import Derived.WalkLawsBesides
import Derived.Deep.QuietTactic
import Derived.BigQuiet
import Derived.Deep.Draws
import Derived.Deep.AppendLies
import Derived.Laws.OwnMore
import Derived.Laws.BytesArg
import Derived.Lib.Hide
import Derived.Deep.LoopGhost
import Derived.Deep.CutBlock
namespace Go.Proofs.Ytokddjohdodkmaa.Tm
open Go.RowKit Go.Proofs.Ytokddjohdodkmaa.Mw
open Go.Proofs.Ytokddjohdodkmaa.Mm (RC)
set_option linter.unusedVariables false
set_option linter.unusedSimpArgs false

set_option maxHeartbeats 4000000 in
set_option maxRecDepth 200000 in
theorem credit_st (l : List Int) (B : Option Addr) (cB : Nat) (part : Int) (w : World) (hl : l.length ≤ maxLen) (hlc : l.length ≤ cB) (hi : ∀ n ∈ l, I64 n) (hB : RdI w .i64 B l) (h1 : I64 part) :
    Calls Try.prog 6 #[.slice B l.length cB, .int .i64 part] w fun e w' => e = .returned (.bool true) ∧ Below w.heap.size w w' := by
  go_enter Try.func6, Try.ntmps6
  go_wp2_with fail
  refine (new_any l B cB _ hB hl hlc hi).mono ?_
  rintro e w1 ⟨rfl, ht1, hb1⟩
  have hlt1 := ht1.lt
  clear hB hi
  unfold maxLen at hl
  go_wp2_with fail
  refine (paperz_any w.heap.size 0 0 _ ht1).mono ?_
  rintro e w2 ⟨ps, vP, h1p, h6p, hps, h12, hown, rfl, ht2, hg2⟩
  obtain ⟨A, k, rfl, hr, hA⟩ := own_parts hown
  have hc2 : Below w.heap.size w w2 := bl_gb hb1 hg2 (Nat.le_refl _)
  have hlt2 := ht2.lt
  obtain ⟨p, hp⟩ : ∃ p : Pa, p = ⟨0, 0, A, k, ps⟩ := ⟨_, rfl⟩
  have hp1 : 1 ≤ p.l.length := by rw [hp]; exact h1p
  have hp6 : p.l.length ≤ 6 := by rw [hp]; exact h6p
  have hpl : p.l.length ≤ 20 := by omega
  have hPLp : PL p.l := by rw [hp]; exact PL_ok hps
  have HVP := Lib.hid (show vpp p.c p.v p.l = true by rw [hp]; exact vpp_12 h12 h1p h6p hps)
  have hpa : PaOk (w2.alloc (.cells (pac p) 27)) p := by rw [hp]; exact ⟨hr.alloc _, by show ps.length ≤ 1000; omega⟩
  have haw : Away w.heap.size p.A := by rw [hp]; exact fun a ha => by have := hA a ha; omega
  have hA2 : ∀ a, p.A = some a → a.block < w2.heap.size := by rw [hp]; exact fun a ha => (hA a ha).2
  have hv : (.agg #[.int .i64 0, .int .i64 0, .slice A ps.length k] : Value) = pav p := by rw [hp]
  rw [hv]
  have b1 : Bk (w2.alloc (.cells (pac p) 27)) w2.heap.size 27 (pac p) := Bk.new' rfl
  clear hp hv hr hA hps h12 h1p h6p hown hb1 hg2 ht1
  go_wp2_with fail
  refine (tscheme_any w.heap.size p 0 _ (ht2.alloc _) hpa haw hpl hPLp (by omega)).mono ?_
  rintro e w3 ⟨s, hs, hnew, hsv, rfl, ht3, hg3⟩
  obtain ⟨⟨sv1, sv2, sv3⟩, hSW⟩ := hsv (Int.le_refl _)
  have HS : Hid (SOk p s) := ⟨HVP.out, sv1, sv2, sv3⟩
  have hlw : p.l.length ≤ s.wd.length := by rw [sv2]; exact Nat.le_refl _
  have sw : ScAw w.heap.size s := ⟨fun a ha => by have := hnew.1 a ha; simp at this; omega, fun a ha => by have := hnew.2.1 a ha; simp at this; omega, fun i hi a ha => by have := hnew.2.2 i hi a ha; simp at this; omega⟩
  have hz3 := hg3.size
  have hW3 : ∀ a, s.W = some a → w2.heap.size < a.block := fun a ha => by have := hnew.2.1 a ha; simp at this; omega
  have P3 : PS2 w (w3.alloc (.cells (scc s) 31)) w.heap.size w2.heap.size w3.heap.size p s :=
    ⟨(hpa.grown hg3 haw).alloc _, hs.alloc _, (b1.kept hg3 (by omega)).alloc _, Bk.new' rfl, bl_alloc (bl_gb (bl_alloc hc2 _) hg3 (Nat.le_refl _)) _, ht3.alloc _, haw, sw, by omega, by simp at hz3; omega, Nat.le_refl _⟩
  have hW4 : ∀ j, j < s.wd.length → ∃ b off, s.W = some ⟨b, off, none⟩ ∧ b < w3.heap.size := fun j hj => by obtain ⟨b, off, e, hlt, _⟩ := hs.rw j hj; exact ⟨b, off, e, hlt⟩
  have hz2 := hc2.size
  have hz4 : w2.heap.size + 1 ≤ w3.heap.size := by simp at hz3; omega
  have Hsw := Lib.hid hSW
  clear hpa b1 hs hnew ht3 hg3 hc2 ht2 sw haw hz3 hsv sv1 sv2 sv3 HVP hSW
  have hfz := fun (a : Addr) (ha : s.W = some a) (o : Nat) => (Hsw.out.1 a ha o)
  have Hfz := Lib.hid hfz
  clear hfz
  go_upto_region 4 with fail
  have hV0 : w3.heap.size ≤ (w3.alloc (.cells (scc s) 31)).heap.size := by simp
  have hVb : Below w3.heap.size w3 (w3.alloc (.cells (scc s) 31)) := bl_alloc (Below.refl _ _) _
  generalize w3.alloc (.cells (scc s) 31) = V0 at P3 hV0 hVb ⊢
  obtain ⟨k0, k1, k2⟩ := bk3' P3.b1
  obtain ⟨⟨m0, m1⟩, -⟩ := bk2 P3.b2
  have l1 := P3.b1.lt
  have l2 := P3.b2.lt
  go_wp2_with fail
  refine (marks_any w.heap.size p 0 _ P3.ta P3.pa P3.aw hpl hPLp (by omega)).mono ?_
  rintro e y0 ⟨ms, M, cM, hm21, hrm, hMn, hpm, rfl, ht4, hg4⟩
  obtain ⟨hml, hmp⟩ := hpm (Int.le_refl _)
  have P4 := P3.turn hg4 ht4
  have Hmp := Lib.hid hmp
  have Hml := Lib.hid hml
  clear P3 ht4 k0 k1 k2 m0 m1 l1 l2 hpm hmp hml
  obtain ⟨j0, hj0⟩ : ∃ j0 : Int, j0 = part % (p.l.length : Int) := ⟨_, rfl⟩
  have hjb : 0 ≤ j0 ∧ j0 < p.l.length := by rw [hj0]; exact ⟨Int.emod_nonneg _ (by omega), Int.emod_lt_of_pos _ (by omega)⟩
  obtain ⟨j, rfl⟩ := Int.eq_ofNat_of_zero_le hjb.1
  have hj : j < p.l.length := by omega
  have hjw : j < s.wd.length := by omega
  obtain ⟨k0, k1, k2⟩ := bk3' P4.b1
  obtain ⟨⟨m0, m1⟩, -⟩ := bk2 P4.b2
  have l1 := P4.b1.lt
  have l2 := P4.b2.lt
  go_wp2_with fail
  refine (cut_any part p.l.length (by omega) (by omega) h1 _).mono ?_
  rintro e x1 ⟨rfl, rfl⟩
  rw [← hj0]
  clear hj0 h1 hjb
  obtain ⟨wb, woff, hWe, hwb⟩ := hW4 j hjw
  have hw2 := hW3 _ hWe
  have hf : y0.frozen? ⟨wb, woff + j, none⟩ = false := by
    have h0 := Hfz.out _ hWe (woff + j)
    have e1 := (bcell hVb w3.heap.size (Nat.le_refl _)).2 wb (woff + j) hwb
    have e2 := (gcell hg4 wb (by omega) (by simp at hw2; omega)).2 (woff + j)
    rw [e2, e1]; exact h0
  have P5 := PS2.store P4 hWe Hsw.out.2 (fun a ha => by have := hA2 a ha; simp at hw2; omega) (by simp at hw2; omega) (by omega) (by simp at hw2; omega) hjw 0
  have hrm5 : RdI (y0.setCell ⟨wb, woff + j, none⟩ (.int .i64 0)) .i64 M ms := hrm.far (p := ⟨wb, woff + j, none⟩) (fun a ha => by have := hMn a ha; show a.block ≠ wb; omega) _
  obtain ⟨cb, coff, hWe', _, hwc⟩ := P4.sc.rw j hjw
  rw [hWe] at hWe'
  cases hWe'
  have q0 : (0 : Int) ≤ j := by omega
  have q1 : (j : Int) < s.wd.length := by omega
  rw [hWe] at m1
  clear hrm hg4 hMn hW3 hW4 Hfz Hsw P4 hVb hV0
  go_upto_region 7 with fail
  obtain ⟨s', hs'⟩ : ∃ s' : Sc, s' = swd s j 0 := ⟨_, rfl⟩
  rw [← hs'] at P5
  have HS' : Hid (SOk p s') := by rw [hs']; exact HS.out.wd (s' := swd s j 0) rfl hj (by omega) rfl
  have hlw' : p.l.length ≤ s'.wd.length := by rw [HS'.out.lw]; exact Nat.le_refl _
  have HZ : Hid (gi s'.wd j = 0) := by unfold Hid; rw [hs']; show gi (s.wd.set j 0) j = 0; rw [gi_set hjw, if_pos rfl]
  clear hs' HS hWe hwc hf k0 k1 k2 m0 m1 l1 l2 hw2 hwb q1 hjw hlw
  generalize y0.setCell ⟨wb, woff + j, none⟩ (.int .i64 0) = V1 at P5 hrm5 ⊢
  obtain ⟨k0, k1, k2⟩ := bk3' P5.b1
  obtain ⟨⟨m0, m1⟩, -⟩ := bk2 P5.b2
  have l1 := P5.b1.lt
  have l2 := P5.b2.lt
  go_wp2_with fail
  refine (withdraw_any p s' j 1 _ P5.pa P5.sc).mono ?_
  rintro e y1 ⟨s1, rfl, hs1', hk1', hw1', hb1⟩
  have hwe : wde p s' j 1 = 0 := wde_0 HS'.out.val (by omega) (by decide)
  have hk1 : Hid (kls s1.ks = kls s'.ks) := by unfold Hid; rw [hk1', wks, if_pos hwe]
  have hw1 : Hid (s1.wd = s'.wd.set j 1) := by unfold Hid; rw [hw1', wwd, if_pos hwe]; simp
  rw [hwe]
  have HS1 : Hid (SOk p s1) := HS'.out.wd hk1.out hj (by omega) hw1.out
  have P6 := (P5.old hb1).old ((Below.refl _ _).alloc (Nat.le_refl _) (.cells (scc s1) 31))
  have hrm6 := (hrm5.old hb1).alloc (.cells (scc s1) 31)
  have B1 : Bk (y1.alloc (.cells (scc s1) 31)) y1.heap.size 31 (scc s1) := Bk.new' rfl
  have hs1 := hs1'.alloc (.cells (scc s1) 31)
  clear hk1' hw1' hwe P5 hrm5 hb1 hs1' k0 k1 k2 m0 m1 l1 l2
  go_upto_region 8 with fail
  generalize y1.alloc (.cells (scc s1) 31) = V2 at P6 hrm6 B1 hs1 ⊢
  obtain ⟨a, b, c, ta, tb, tc, td, hE, ba, bb, bc, bd⟩ := credit_law HS'.out HS1.out hj HZ.out hw1.out Hml.out Hmp.out
  have Ta := Lib.hid ta
  have Tb := Lib.hid tb
  have Tc := Lib.hid tc
  have Td := Lib.hid td
  have HE := Lib.hid hE
  have hyb := (vp_iff _).1 (HS'.out.part j hj)
  have hxb := perm_bd (HS'.out.part j hj) (Hmp.out j hj (HS'.out.part j hj))
  have y40 := hyb.2.1
  have y1p := hyb.1
  clear ta tb tc td hE HZ hk1 hw1 HS1 Hmp hyb
  obtain ⟨k0, k1, k2⟩ := bk3' P6.b1
  obtain ⟨⟨m0, m1⟩, -⟩ := bk2 P6.b2
  have l1 := P6.b1.lt
  have l2 := P6.b2.lt
  obtain ⟨⟨n0, n1⟩, -⟩ := bk2 B1
  have l3 := B1.lt
  go_wp2_with fail
  refine (total_any p s' ms M cM _ P6.pa P6.sc hrm6 (by omega)).mono ?_
  rintro e u1 ⟨rfl, hb1⟩
  rw [Ta.out]
  have Q1 := P6.old hb1
  have r1 := hrm6.old hb1
  have B1y := B1.old hb1
  have hs1y := hs1.old hb1
  clear P6 hrm6 B1 hs1 hb1 k0 k1 k2 m0 m1 l1 l2 n0 n1 l3 Ta
  obtain ⟨k0, k1, k2⟩ := bk3' Q1.b1
  obtain ⟨⟨m0, m1⟩, -⟩ := bk2 Q1.b2
  have l1 := Q1.b1.lt
  have l2 := Q1.b2.lt
  obtain ⟨⟨n0, n1⟩, -⟩ := bk2 B1y
  have l3 := B1y.lt
  go_wp2_with fail
  refine (total_any p s1 ms M cM _ Q1.pa hs1y r1 (by omega)).mono ?_
  rintro e u2 ⟨rfl, hb2⟩
  rw [Tb.out]
  have Q2 := Q1.old hb2
  have r2 := r1.old hb2
  have B2y := B1y.old hb2
  have hs2y := hs1y.old hb2
  clear Q1 r1 B1y hs1y hb2 k0 k1 k2 m0 m1 l1 l2 n0 n1 l3 Tb
  obtain ⟨k0, k1, k2⟩ := bk3' Q2.b1
  obtain ⟨⟨m0, m1⟩, -⟩ := bk2 Q2.b2
  have l1 := Q2.b1.lt
  have l2 := Q2.b2.lt
  obtain ⟨⟨n0, n1⟩, -⟩ := bk2 B2y
  have l3 := B2y.lt
  go_wp2_with fail
  refine (maximum_any p s' _ Q2.pa Q2.sc).mono ?_
  rintro e u3 ⟨rfl, hb3⟩
  rw [Tc.out]
  have Q3 := Q2.old hb3
  have r3 := r2.old hb3
  have B3y := B2y.old hb3
  have hs3y := hs2y.old hb3
  clear Q2 r2 B2y hs2y hb3 k0 k1 k2 m0 m1 l1 l2 n0 n1 l3 Tc
  obtain ⟨k0, k1, k2⟩ := bk3' Q3.b1
  obtain ⟨⟨m0, m1⟩, -⟩ := bk2 Q3.b2
  have l1 := Q3.b1.lt
  have l2 := Q3.b2.lt
  obtain ⟨⟨n0, n1⟩, -⟩ := bk2 B3y
  have l3 := B3y.lt
  go_wp2_with fail
  refine (maximum_any p s1 _ Q3.pa hs3y).mono ?_
  rintro e u4 ⟨rfl, hb4⟩
  rw [Td.out]
  have Q4 := Q3.old hb4
  have r4 := r3.old hb4
  have B4y := B3y.old hb4
  have hs4y := hs3y.old hb4
  clear Q3 r3 B3y hs3y hb4 k0 k1 k2 m0 m1 l1 l2 n0 n1 l3 Td
  obtain ⟨k0, k1, k2⟩ := bk3' Q4.b1
  obtain ⟨⟨m0, m1⟩, -⟩ := bk2 Q4.b2
  have l1 := Q4.b1.lt
  have l2 := Q4.b2.lt
  obtain ⟨pb, poff, hpe, hpb, a0, a1, a2, a3, a4, a5⟩ := (Q4.pa.rd).at j hj
  obtain ⟨mb, moff, hme, hmb, hmc⟩ := r4 j (by rw [Hml.out]; exact hj)
  have q2 : (j : Int) < p.l.length := by omega
  have q3 : (j : Int) < ms.length := by rw [Hml.out]; omega
  have R7 : RC 19 #[] u4 (.bool true) := RC.of fun V _ => awake_any V
  have hbe := Q4.be
  rw [hpe] at k2
  subst hme
  clear Q4 r4 B4y hs4y
  generalize gi ms j = x at *
  generalize (gp p.l j).m = y at *
  have hEE := HE.out
  clear HE
  rcases Int.lt_trichotomy x 0 with hx | hx | hx
  · have z1 : (b - a == y - 0) = true := beq_iff_eq.2 (by omega)
    have z2 : (b - a == y) = true := beq_iff_eq.2 (by omega)
    clear hEE
    go_wp2_with fail
    refine Mm.region_ext (by kernel_rfl) (by kernel_rfl) ?_; (repeat (first | go_big_quiet_step ((exact Mm.RC.call (by with_reducible assumption) _)) | quiet_step ((exact Mm.RC.call (by with_reducible assumption) _)))); refine wpQuiet_nil ?_
    intro w6 hb6
    go_wp2_with fail
    go_ret
    exact ⟨rfl, bl_trans hbe hb6⟩
  · subst hx
    have z1 : (b - a == y - 0) = true := beq_iff_eq.2 (by omega)
    have z2 : (b - a == y) = true := beq_iff_eq.2 (by omega)
    clear hEE
    go_wp2_with fail
    refine Mm.region_ext (by kernel_rfl) (by kernel_rfl) ?_; (repeat (first | go_big_quiet_step ((exact Mm.RC.call (by with_reducible assumption) _)) | quiet_step ((exact Mm.RC.call (by with_reducible assumption) _)))); refine wpQuiet_nil ?_
    intro w6 hb6
    go_wp2_with fail
    go_ret
    exact ⟨rfl, bl_trans hbe hb6⟩
  · have z1 : (b - a == y - x) = true := beq_iff_eq.2 (by omega)
    clear hEE
    go_wp2_with fail
    refine Mm.region_ext (by kernel_rfl) (by kernel_rfl) ?_; (repeat (first | go_big_quiet_step ((exact Mm.RC.call (by with_reducible assumption) _)) | quiet_step ((exact Mm.RC.call (by with_reducible assumption) _)))); refine wpQuiet_nil ?_
    intro w6 hb6
    go_wp2_with fail
    go_ret
    exact ⟨rfl, bl_trans hbe hb6⟩
end Go.Proofs.Ytokddjohdodkmaa.Tm
