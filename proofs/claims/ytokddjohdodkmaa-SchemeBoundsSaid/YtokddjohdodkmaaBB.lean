/- Walk: the statement SchemeBounds. -/
import Derived.Test.YtokddjohdodkmaaBA
import Derived.Test.YtokddjohdodkmaaHJ
import Derived.Test.YtokddjohdodkmaaHH
import Derived.Test.YtokddjohdodkmaaHF
import Derived.WalkKit
import Derived.WalkSpells
import Derived.WalkLawsBesides
import Derived.Deep.QuietTactic
import Derived.BigQuiet
import Derived.Deep.Draws
import Derived.Deep.AppendLies
import Derived.Laws.OwnMore
import Derived.Laws.BytesArg
import Derived.Lib.Hide
import Derived.Deep.LoopGhost
import Derived.Deep.CutBlock
import Derived.Deep.RegionHeld3
namespace Go.Proofs.Ytokddjohdodkmaa.Tm
open Go.RowKit Go.Proofs.Ytokddjohdodkmaa.Mw
open Go.Proofs.Ytokddjohdodkmaa.Mm (RC)
set_option linter.unusedVariables false
set_option linter.unusedSimpArgs false

set_option maxHeartbeats 4000000 in
set_option maxRecDepth 200000 in
theorem bounds_st (l : List Int) (B : Option Addr) (cB : Nat)  (w : World) (hl : l.length ≤ maxLen) (hlc : l.length ≤ cB) (hi : ∀ n ∈ l, I64 n) (hB : RdI w .i64 B l)  :
    Calls Try.prog 9 #[.slice B l.length cB] w fun e w' => e = .returned (.bool true) ∧ Below w.heap.size w w' := by
  go_enter Try.func9, Try.ntmps9
  go_wp2_with fail
  refine (new_any l B cB _ hB hl hlc hi).mono ?_
  rintro e w1 ⟨rfl, ht1, hb1⟩
  have hlt1 := ht1.lt
  clear hB hi
  unfold maxLen at hl
  go_wp2_with fail
  refine (paperz_any w.heap.size 0 0 _ ht1).mono ?_
  rintro e w2 ⟨ps, vP, h1p, h6p, hps, h12, hown, rfl, ht2, hg2⟩
  obtain ⟨A, k, rfl, hr, hA⟩ := own_parts hown
  have hc2 : Below w.heap.size w w2 := bl_gb hb1 hg2 (Nat.le_refl _)
  have hlt2 := ht2.lt
  obtain ⟨p, hp⟩ : ∃ p : Pa, p = ⟨0, 0, A, k, ps⟩ := ⟨_, rfl⟩
  have hp1 : 1 ≤ p.l.length := by rw [hp]; exact h1p
  have hp6 : p.l.length ≤ 6 := by rw [hp]; exact h6p
  have hpl : p.l.length ≤ 20 := by omega
  have hPLp : PL p.l := by rw [hp]; exact PL_ok hps
  have HVP := Lib.hid (show vpp p.c p.v p.l = true by rw [hp]; exact vpp_12 h12 h1p h6p hps)
  have hpa : PaOk (w2.alloc (.cells (pac p) 27)) p := by rw [hp]; exact ⟨hr.alloc _, by show ps.length ≤ 1000; omega⟩
  have haw : Away w.heap.size p.A := by rw [hp]; exact fun a ha => by have := hA a ha; omega
  have hA2 : ∀ a, p.A = some a → a.block < w2.heap.size := by rw [hp]; exact fun a ha => (hA a ha).2
  have hv : (.agg #[.int .i64 0, .int .i64 0, .slice A ps.length k] : Value) = pav p := by rw [hp]
  rw [hv]
  have b1 : Bk (w2.alloc (.cells (pac p) 27)) w2.heap.size 27 (pac p) := Bk.new' rfl
  clear hp hv hr hA hps h12 h1p h6p hown hb1 hg2 ht1
  go_wp2_with fail
  refine (tscheme_any w.heap.size p 0 _ (ht2.alloc _) hpa haw hpl hPLp (by omega)).mono ?_
  rintro e w3 ⟨s, hs, hnew, hsv, rfl, ht3, hg3⟩
  obtain ⟨⟨sv1, sv2, sv3⟩, hSW⟩ := hsv (Int.le_refl _)
  have HS : Hid (SOk p s) := ⟨HVP.out, sv1, sv2, sv3⟩
  have hlw : p.l.length ≤ s.wd.length := by rw [sv2]; exact Nat.le_refl _
  have sw : ScAw w.heap.size s := ⟨fun a ha => by have := hnew.1 a ha; simp at this; omega, fun a ha => by have := hnew.2.1 a ha; simp at this; omega, fun i hi a ha => by have := hnew.2.2 i hi a ha; simp at this; omega⟩
  have hz3 := hg3.size
  have hW3 : ∀ a, s.W = some a → w2.heap.size < a.block := fun a ha => by have := hnew.2.1 a ha; simp at this; omega
  have P3 : PS2 w (w3.alloc (.cells (scc s) 31)) w.heap.size w2.heap.size w3.heap.size p s :=
    ⟨(hpa.grown hg3 haw).alloc _, hs.alloc _, (b1.kept hg3 (by omega)).alloc _, Bk.new' rfl, bl_alloc (bl_gb (bl_alloc hc2 _) hg3 (Nat.le_refl _)) _, ht3.alloc _, haw, sw, by omega, by simp at hz3; omega, Nat.le_refl _⟩
  have hW4 : ∀ j, j < s.wd.length → ∃ b off, s.W = some ⟨b, off, none⟩ ∧ b < w3.heap.size := fun j hj => by obtain ⟨b, off, e, hlt, _⟩ := hs.rw j hj; exact ⟨b, off, e, hlt⟩
  have hz2 := hc2.size
  have hz4 : w2.heap.size + 1 ≤ w3.heap.size := by simp at hz3; omega
  have Hsw := Lib.hid hSW
  clear hpa b1 hs hnew ht3 hg3 hc2 ht2 sw haw hz3 hsv sv1 sv2 sv3 HVP hSW
  clear hW3 hW4 Hsw hA2 hlw
  go_upto_region 4 with fail
  generalize w3.alloc (.cells (scc s) 31) = V0 at P3 ⊢
  obtain ⟨k0, k1, k2⟩ := bk3' P3.b1
  obtain ⟨⟨m0, m1⟩, -⟩ := bk2 P3.b2
  have l1 := P3.b1.lt
  have l2 := P3.b2.lt
  go_region_held3 (fun w' => w'.cell? ⟨w2.heap.size, 0, none⟩ = some (.int .i64 p.c) ∧ w'.cell? ⟨w2.heap.size, 1, none⟩ = some (.int .i64 p.v) ∧ w'.cell? ⟨w2.heap.size, 2, none⟩ = some (.slice p.A p.l.length p.k) ∧ w'.cell? ⟨w3.heap.size, 0, none⟩ = some (.slice s.K s.ks.length s.ck) ∧ w'.cell? ⟨w3.heap.size, 1, none⟩ = some (.slice s.W s.wd.length s.cw)) ((refine ⟨?_, ?_, ?_, ?_, ?_⟩ <;> (first | with_reducible assumption | (with_reducible refine cell_drew ?_; with_reducible assumption)))) (first
    | (go_at_call 15; have PD := P3.old (W' := V0.drew) (Below.drew (Below.refl _ _)); refine (given_any w.heap.size p 0 _ PD.ta PD.pa PD.aw hpl hPLp (by omega)).mono ?_; rintro e y0 ⟨an, M0, cM0, ha21, hra, hMn0, hpa, rfl, ht4, hg4⟩; have P4 := PD.turn hg4 ht4; have Hpa := Lib.hid (hpa (Int.le_refl _)); clear hpa; obtain ⟨b0, b1, b2⟩ := bk3' P4.b1; obtain ⟨⟨b3, b4⟩, -⟩ := bk2 P4.b2)
    | (go_at_call 16; refine (closed_any p s an M0 cM0 _ P4.pa P4.sc hra (by omega)).mono ?_; rintro e y1 ⟨M, cM, rfl, hrm, hMn, hMf, hb1⟩; have P5 := P4.old hb1; obtain ⟨f0, f1, f2⟩ := bk3' P5.b1; obtain ⟨⟨f3, f4⟩, -⟩ := bk2 P5.b2))
  obtain ⟨hal, hag⟩ := Hpa.out
  rw [clo_ok HS.out hal hag] at hrm ⊢
  rw [mks_len]
  have HB0 := Lib.hid (bi_0 (an := an) HS.out)
  have hml : p.l.length ≤ (mks p s an p.l.length).length := by rw [mks_len]; exact Nat.le_refl _
  replace hrm : RdI y1 .i64 M (mks p s an p.l.length) := hrm
  obtain ⟨b, off, rfl, hbl, -⟩ := hrm 0 (by omega)
  have hbn := (hMn _ rfl).1
  have hMf' := hMf _ rfl
  simp only at hbn hMf'
  have HG0 := gb_of (some w.heap.size) hb1
  have ht5 := P5.ta
  have Hfr : Hid (∀ o, y1.frozen? ⟨b, o, none⟩ = false) := hMf'
  have htb : w.heap.size < b := by have := P4.ta.lt; omega
  have P40 := P4
  clear PD hal hag hMf hMf' hMn hra hMn0 Hpa ha21 P3 b0 b1 b2 b3 b4 P5 hb1 hg4 ht4 hbl hml P4 k0 k1 k2 m0 m1 l1 l2
  go_wp2_with fail
  clear f0 f1 f2 f3 f4
  go_loopw [8] (fun i wr => ∃ (j : Nat) (ms : List Int), i = .int .i64 j ∧ j ≤ p.l.length ∧ Hid (BI p ms j) ∧ RdI wr .i64 (some ⟨b, off, none⟩) ms ∧ Hid (∀ o, wr.frozen? ⟨b, o, none⟩ = false) ∧ y0.grownBy wr (some w.heap.size) ∧ Tp wr w.heap.size) (fun i _ => p.l.length - (intOf i).toNat)
  case atStart => exact ⟨0, _, rfl, Nat.zero_le _, HB0, hrm, Hfr, HG0, ht5⟩
  case round =>
    clear hrm Hfr HG0 ht5 HB0
    obtain ⟨j, ms, rfl, hj, HB, hrm, Hfr, hg, ht⟩ := hrel
    have P6 := P40.turn hg ht
    by_cases hlt : j < p.l.length
    · have hms : j < ms.length := by rw [HB.out.1]; exact hlt
      obtain ⟨b', off', heq, hbl, hc⟩ := hrm j hms
      cases heq
      obtain ⟨pb, poff, hpe, hpb, a0, a1, a2, a3, a4, a5⟩ := (P6.pa.rd).at j hlt
      have hv := (vp_iff _).1 (HS.out.part j hlt)
      have hm1 := hv.1
      have hm40 := hv.2.1
      have hmn : -9223372036854775808 ≤ (gp p.l j).m := by omega
      clear hv
      have hfj := Hfr.out (off + j)
      have hjj : (j : Int) < p.l.length := by omega
      have hjs : (j : Int) < ms.length := by omega
      have hAM : Away w.heap.size (some ⟨b, off, none⟩) := Away.some (by simp; omega)
      obtain ⟨k0, k1, k2⟩ := bk3' P6.b1
      obtain ⟨⟨m0, m1⟩, -⟩ := bk2 P6.b2
      have l1 := P6.b1.lt
      have l2 := P6.b2.lt
      rw [hpe] at k2
      clear hpe
      go_upto_if 49 with fail
      go_cut [] (fun wx => ∃ ms' : List Int, Hid (BI p ms' (j + 1)) ∧ Hid (perm (gp p.l j) (gi ms' j) = true) ∧ RdI wx .i64 (some ⟨b, off, none⟩) ms' ∧ Hid (∀ o, wx.frozen? ⟨b, o, none⟩ = false) ∧ y0.grownBy wx (some w.heap.size) ∧ Tp wx w.heap.size)
      case first =>
        by_cases h2 : gi ms j = -2
        · have h2b : (gi ms j == -2) = true := beq_iff_eq.2 h2
          have H2 := Lib.hid h2
          clear h2
          go_wp2_with fail
          refine (range_any w.heap.size (-1) (gp p.l j).m _ P6.ta (by omega) (by omega) (by omega)).mono ?_
          rintro e y2 ⟨v, hv, rfl, ht2, hg2⟩
          have hrm2 := hrm.grown hg2 hAM
          have Hf2 : Hid (∀ o, y2.frozen? ⟨b, o, none⟩ = false) := fun o => ((gcell hg2 b hbl (by omega)).2 o).trans (Hfr.out o)
          have hf2 := Hf2.out (off + j)
          obtain ⟨_, _, heq, hbl2, hc2⟩ := hrm2 j hms
          cases heq
          have Hst := Lib.hid (bi_set HS.out HB.out hlt H2.out hv.1 hv.2)
          clear hfj a0 a1 a2 a3 a4 a5 k0 k1 k2 m0 m1 hc
          go_wp2_with fail
          go_meet
          exact ⟨_, Hst.out.1, Hst.out.2, rdi_set hrm2 j hms v, fun o => fr_set (Hf2.out o), gb_set (gb_trans hg hg2) (.inr hbn) _, ht2.far htb _⟩
        · have h2b : (gi ms j == -2) = false := beq_eq_false_iff_ne.2 h2
          have Hst := Lib.hid (bi_keep HB.out hlt h2)
          clear h2
          go_wp2_with fail
          go_meet
          exact ⟨_, Hst.out.1, Hst.out.2, hrm, Hfr, hg, ht⟩
      case rest =>
        clear hrm Hfr hg ht hc a0 a1 a2 a3 a4 a5 k0 k1 k2 m0 m1 l1 l2 P6 hfj HB hms hbl hjs
        obtain ⟨ms', HB', Hp, hrm, Hfr, hg, ht⟩ := hcut
        have P6 := P40.turn hg ht
        have hms : j < ms'.length := by rw [HB'.out.1]; exact hlt
        obtain ⟨_, _, heq, hbl, hc⟩ := hrm j hms
        cases heq
        have hjm : (j : Int) < ms'.length := by omega
        have hjn : (j : Int) < p.l.length := by omega
        have R : RC 30 #[pav p, scv s, .int .i64 j, .int .i64 (gi ms' j)] wc (.bool true) := RC.of fun W hW => by
          have := permitted_any p s (j : Int) (gi ms' j) W (P6.pa.old hW) (P6.sc.old hW)
          rw [permS_yes HS.out hlt Hp.out] at this
          exact this
        obtain ⟨k0, k1, k2⟩ := bk3' P6.b1
        obtain ⟨⟨m0, m1⟩, -⟩ := bk2 P6.b2
        have l1 := P6.b1.lt
        have l2 := P6.b2.lt
        go_wp2_with fail
        refine Mm.region_ext (by kernel_rfl) (by kernel_rfl) ?_; (repeat (first | go_big_quiet_step ((exact Mm.RC.call (by with_reducible assumption) _)) | quiet_step ((exact Mm.RC.call (by with_reducible assumption) _)))); refine wpQuiet_nil ?_
        intro w6 hb6
        go_wp2_with fail
        go_roundw
        case rel => exact ⟨j + 1, ms', by go_num, by omega, HB', hrm.old hb6, fun o => ((bcell hb6 wc.heap.size (Nat.le_refl _)).2 b o hbl).trans (Hfr.out o), gb_below hg hb6, ht.old hb6⟩
        case measure => simp [intOf]; omega
    · obtain rfl : j = p.l.length := by omega
      obtain ⟨hmk, a, c, ta, tc, ha0, hac, ha1, hc1⟩ := bi_end HS.out HB.out
      have Hmk := Lib.hid hmk
      have Ta := Lib.hid ta
      have Tc := Lib.hid tc
      have Hms := Lib.hid HB.out.1
      have hc0 : 0 ≤ c := by omega
      clear hmk ta tc HB Hfr hg ht
      obtain ⟨k0, k1, k2⟩ := bk3' P6.b1
      obtain ⟨⟨m0, m1⟩, -⟩ := bk2 P6.b2
      have l1 := P6.b1.lt
      have l2 := P6.b2.lt
      go_wp2_with fail
      have q1 := total_any p s ms (some ⟨b, off, none⟩) cM wr P6.pa P6.sc hrm (by rw [Hms.out]; omega)
      rw [Hms.out, Ta.out] at q1
      refine q1.mono ?_
      rintro e u1 ⟨rfl, hb1⟩
      have Q1 := P6.old hb1
      have r1 := hrm.old hb1
      clear q1 P6 hrm hb1 k0 k1 k2 m0 m1 l1 l2
      obtain ⟨k0, k1, k2⟩ := bk3' Q1.b1
      obtain ⟨⟨m0, m1⟩, -⟩ := bk2 Q1.b2
      have l1 := Q1.b1.lt
      have l2 := Q1.b2.lt
      go_wp2_with fail
      have q2 := maximum_any p s u1 Q1.pa Q1.sc
      rw [Tc.out] at q2
      refine q2.mono ?_
      rintro e u2 ⟨rfl, hb2⟩
      have Q2 := Q1.old hb2
      have r2 := r1.old hb2
      clear q2 Q1 r1 hb2 k0 k1 k2 m0 m1 l1 l2
      obtain ⟨k0, k1, k2⟩ := bk3' Q2.b1
      obtain ⟨⟨m0, m1⟩, -⟩ := bk2 Q2.b2
      have l1 := Q2.b1.lt
      have l2 := Q2.b2.lt
      go_wp2_with fail
      have q3 := marked_any p s ms (some ⟨b, off, none⟩) cM u2 Q2.pa Q2.sc r2 (by rw [Hms.out]; omega)
      rw [Hms.out, Hmk.out] at q3
      refine q3.mono ?_
      rintro e u3 ⟨rfl, hb3⟩
      have Q3 := Q2.old hb3
      clear q3 Q2 r2 hb3 k0 k1 k2 m0 m1 l1 l2
      go_wp2_with fail
      refine (awake_any _).mono ?_
      rintro e u4 ⟨rfl, hb4⟩
      go_wp2_with fail
      go_ret
      exact ⟨rfl, bl_trans Q3.be hb4⟩
end Go.Proofs.Ytokddjohdodkmaa.Tm
