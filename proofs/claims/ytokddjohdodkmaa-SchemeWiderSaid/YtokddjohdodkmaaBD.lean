/- Walk: the statement SchemeWider. -/
import Derived.Test.YtokddjohdodkmaaBC
import Derived.Test.YtokddjohdodkmaaHJ
import Derived.Test.YtokddjohdodkmaaHE
import Derived.Test.YtokddjohdodkmaaHF
import Derived.WalkKit
import Derived.WalkSpells
import Derived.WalkLawsBesides
import Derived.Deep.QuietTactic
import Derived.BigQuiet
import Derived.Deep.Draws
import Derived.Deep.AppendLies
import Derived.Laws.OwnMore
import Derived.Laws.BytesArg
import Derived.Lib.Hide
import Derived.Deep.LoopGhost
import Derived.Deep.CutBlock
namespace Go.Proofs.Ytokddjohdodkmaa.Tm
open Go.RowKit Go.Proofs.Ytokddjohdodkmaa.Mw
open Go.Proofs.Ytokddjohdodkmaa.Mm (RC)
set_option linter.unusedVariables false
set_option linter.unusedSimpArgs false

theorem own_keys1 {w : World} {base : Nat} {e : TypeId} {v : Value} {n : Nat} {ks : List Ky} (h : w.ownsRow base e 1 v n (ks.map kv)) (hk : ∀ i, i < ks.length → RdI w .i64 (gk ks i).A (gk ks i).l) (h0 : 0 < ks.length) : ∃ g c, v = .slice (some ⟨g, 0, none⟩) ks.length c ∧ RdK w (some ⟨g, 0, none⟩) ks ∧ base ≤ g ∧ g < w.heap.size ∧ ∀ o, w.frozen? ⟨g, o, none⟩ = false := by
  obtain ⟨A, c, rfl, hr, hA⟩ := own_keys h hk
  obtain ⟨b, off, rfl, hb, _⟩ := hr 0 h0
  have hn : n = ks.length := by have := h.1; simpa using this.symm
  subst hn
  obtain ⟨g, cap, hv, _, hlt⟩ := h.form (by omega)
  injection hv with e1 e2 e3
  cases e1
  exact ⟨b, c, rfl, hr, (hA _ rfl).1, (hA _ rfl).2, own_frozen h _ rfl⟩
theorem rdk_news {w : World} {b off : Nat} {ks : List Ky} (h : RdK w (some ⟨b, off, none⟩) ks) : ∀ (j : Nat) (u : Value), (ks.map kv)[j]? = some u → w.cell? ((⟨b, off, none⟩ : Addr).add j) = some u := fun j u hu => by
  have hj : j < ks.length := by
    rcases Nat.lt_or_ge j ks.length with h1 | h1
    · exact h1
    · rw [List.getElem?_eq_none (by simpa using h1)] at hu; cases hu
  obtain ⟨_, _, e, _, hc, _⟩ := h j hj
  cases e
  rw [List.getElem?_map, gk_lt ks j hj] at hu
  cases hu
  have e1 : (⟨b, off, none⟩ : Addr).add j = ⟨b, off + j, none⟩ := by
    unfold Addr.add
    by_cases h : j = 0
    · subst h; rfl
    · simp [h]
  rw [e1]; exact hc
theorem rdk_one (ks : List Ky) : ∀ u ∈ ks.map kv, u.oneCell' = true := fun u hu => by
  obtain ⟨k, _, rfl⟩ := List.mem_map.1 hu
  simp [Value.oneCell']
set_option maxHeartbeats 4000000 in
set_option maxRecDepth 200000 in
theorem wider_st (l : List Int) (B : Option Addr) (cB : Nat) (part opt : Int) (w : World) (hl : l.length ≤ maxLen) (hlc : l.length ≤ cB) (hi : ∀ n ∈ l, I64 n) (hB : RdI w .i64 B l) (h1 : I64 part) (h2 : I64 opt) :
    Calls Try.prog 11 #[.slice B l.length cB, .int .i64 part, .int .i64 opt] w fun e w' => e = .returned (.bool true) ∧ Below w.heap.size w w' := by
  obtain ⟨i0, hi0, iz0, iz1, iz2⟩ := info_parts infoInt
  obtain ⟨i1, hi1, hy0, hy1, hy2⟩ := info_parts infoSl
  go_enter Try.func11, Try.ntmps11
  go_wp2_with fail
  refine (new_any l B cB _ hB hl hlc hi).mono ?_
  rintro e w1 ⟨rfl, ht1, hb1⟩
  have hlt1 := ht1.lt
  clear hB hi
  unfold maxLen at hl
  go_wp2_with fail
  refine (paperz_any w.heap.size 0 0 _ ht1).mono ?_
  rintro e w2 ⟨ps, vP, h1p, h6p, hps, h12, hown, rfl, ht2, hg2⟩
  obtain ⟨A, k, rfl, hr, hA⟩ := own_parts hown
  have hc2 : Below w.heap.size w w2 := bl_gb hb1 hg2 (Nat.le_refl _)
  have hlt2 := ht2.lt
  obtain ⟨p, hp⟩ : ∃ p : Pa, p = ⟨0, 0, A, k, ps⟩ := ⟨_, rfl⟩
  have hp1 : 1 ≤ p.l.length := by rw [hp]; exact h1p
  have hp6 : p.l.length ≤ 6 := by rw [hp]; exact h6p
  have hpl : p.l.length ≤ 20 := by omega
  have hPLp : PL p.l := by rw [hp]; exact PL_ok hps
  have HVP := Lib.hid (show vpp p.c p.v p.l = true by rw [hp]; exact vpp_12 h12 h1p h6p hps)
  have hpa : PaOk (w2.alloc (.cells (pac p) 27)) p := by rw [hp]; exact ⟨hr.alloc _, by show ps.length ≤ 1000; omega⟩
  have haw : Away w.heap.size p.A := by rw [hp]; exact fun a ha => by have := hA a ha; omega
  have hA2 : ∀ a, p.A = some a → a.block < w2.heap.size := by rw [hp]; exact fun a ha => (hA a ha).2
  have hv : (.agg #[.int .i64 0, .int .i64 0, .slice A ps.length k] : Value) = pav p := by rw [hp]
  rw [hv]
  have b1 : Bk (w2.alloc (.cells (pac p) 27)) w2.heap.size 27 (pac p) := Bk.new' rfl
  clear hp hv hr hA hps h12 h1p h6p hown hb1 hg2 ht1
  go_wp2_with fail
  refine (tscheme_any w.heap.size p 0 _ (ht2.alloc _) hpa haw hpl hPLp (by omega)).mono ?_
  rintro e w3 ⟨s, hs, hnew, hsv, rfl, ht3, hg3⟩
  obtain ⟨⟨sv1, sv2, sv3⟩, hSW⟩ := hsv (Int.le_refl _)
  have HS : Hid (SOk p s) := ⟨HVP.out, sv1, sv2, sv3⟩
  have hlw : p.l.length ≤ s.wd.length := by rw [sv2]; exact Nat.le_refl _
  have sw : ScAw w.heap.size s := ⟨fun a ha => by have := hnew.1 a ha; simp at this; omega, fun a ha => by have := hnew.2.1 a ha; simp at this; omega, fun i hi a ha => by have := hnew.2.2 i hi a ha; simp at this; omega⟩
  have hz3 := hg3.size
  have hW3 : ∀ a, s.W = some a → w2.heap.size < a.block := fun a ha => by have := hnew.2.1 a ha; simp at this; omega
  have P3 : PS2 w (w3.alloc (.cells (scc s) 31)) w.heap.size w2.heap.size w3.heap.size p s :=
    ⟨(hpa.grown hg3 haw).alloc _, hs.alloc _, (b1.kept hg3 (by omega)).alloc _, Bk.new' rfl, bl_alloc (bl_gb (bl_alloc hc2 _) hg3 (Nat.le_refl _)) _, ht3.alloc _, haw, sw, by omega, by simp at hz3; omega, Nat.le_refl _⟩
  have hW4 : ∀ j, j < s.wd.length → ∃ b off, s.W = some ⟨b, off, none⟩ ∧ b < w3.heap.size := fun j hj => by obtain ⟨b, off, e, hlt, _⟩ := hs.rw j hj; exact ⟨b, off, e, hlt⟩
  have hz2 := hc2.size
  have hz4 : w2.heap.size + 1 ≤ w3.heap.size := by simp at hz3; omega
  have Hsw := Lib.hid hSW
  clear hpa b1 hs hnew ht3 hg3 hc2 ht2 sw haw hz3 hsv sv1 sv2 sv3 HVP hSW
  clear hW3 hW4 Hsw hA2 hlw
  obtain ⟨k0, k1, k2⟩ := bk3' P3.b1
  obtain ⟨⟨m0, m1⟩, -⟩ := bk2 P3.b2
  have l1 := P3.b1.lt
  have l2 := P3.b2.lt
  go_wp2_with fail
  refine (given_any w.heap.size p 0 _ P3.ta P3.pa P3.aw hpl hPLp (by omega)).mono ?_
  rintro e y0 ⟨an, M, cM, ha21, hra, hMn, hpa, rfl, ht4, hg4⟩
  have P4 := P3.turn hg4 ht4
  have Hpa := Lib.hid (hpa (Int.le_refl _))
  clear hpa P3 k0 k1 k2 m0 m1 l1 l2 hg4 ht4
  obtain ⟨j0, hj0⟩ : ∃ j0 : Int, j0 = part % (p.l.length : Int) := ⟨_, rfl⟩
  have hjb : 0 ≤ j0 ∧ j0 < p.l.length := by rw [hj0]; exact ⟨Int.emod_nonneg _ (by omega), Int.emod_lt_of_pos _ (by omega)⟩
  obtain ⟨j, rfl⟩ := Int.eq_ofNat_of_zero_le hjb.1
  have hj : j < p.l.length := by omega
  obtain ⟨k0, k1, k2⟩ := bk3' P4.b1
  obtain ⟨⟨m0, m1⟩, -⟩ := bk2 P4.b2
  have l1 := P4.b1.lt
  have l2 := P4.b2.lt
  go_wp2_with fail
  refine (cut_any part p.l.length (by omega) (by omega) h1 _).mono ?_
  rintro e x1 ⟨rfl, rfl⟩
  rw [← hj0]
  clear hj0 h1 hjb
  have hjj : (j : Int) < p.l.length := by omega
  obtain ⟨pb, poff, hpe, hpb, a0, a1, a2, a3, a4, a5⟩ := (P4.pa.rd).at j hj
  rw [hpe] at k2
  have Hpe := Lib.hid hpe
  have Hpav : Hid (pav p = .agg #[.int .i64 p.c, .int .i64 p.v, .slice (some ⟨pb, poff, none⟩) p.l.length p.k]) := by unfold Hid; rw [← hpe]
  clear hpe
  have hv := (vp_iff _).1 (HS.out.part j hj)
  by_cases hk2 : ¬ (gp p.l j).k = 2
  · have hk2b : ((gp p.l j).k != 2) = true := by simp [hk2]
    clear hk2 hv
    go_wp2_with fail
    refine (awake_any _).mono ?_
    rintro e u4 ⟨rfl, hb4⟩
    go_wp2_with fail
    go_ret
    exact ⟨rfl, bl_trans P4.be hb4⟩
  replace hk2 := Decidable.not_not.1 hk2
  have hk2b : ((gp p.l j).k != 2) = false := by simp [hk2]
  obtain ⟨N, hN⟩ := Int.eq_ofNat_of_zero_le (show 0 ≤ (gp p.l j).n by omega)
  have hN1 : 2 ≤ N ∧ N ≤ 7 := by omega
  rw [hN] at a4
  have Hk2 := Lib.hid hk2
  have HN := Lib.hid hN
  clear hk2 hv hN
  obtain ⟨o, ho⟩ : ∃ o : Int, o = opt % (N : Int) := ⟨_, rfl⟩
  have hob : 0 ≤ o ∧ o < N := by rw [ho]; exact ⟨Int.emod_nonneg _ (by omega), Int.emod_lt_of_pos _ (by omega)⟩
  go_wp2_with fail
  refine (cut_any opt N (by omega) (by omega) h2 _).mono ?_
  rintro e x1 ⟨rfl, rfl⟩
  rw [← ho]
  clear ho h2 hk2b
  go_upto_region 10 with fail
  obtain ⟨mb, moff, hMe, hmb, -⟩ := hra 0 (by rw [Hpa.out.1]; omega)
  subst hMe
  have hMn0 := hMn _ rfl
  have P5 := P4.old ((Below.refl _ _).alloc (Nat.le_refl _) (.cells #[.slice none 0 0, .slice s.W s.wd.length s.cw] 31))
  have BY : Bk (y0.alloc (.cells #[.slice none 0 0, .slice s.W s.wd.length s.cw] 31)) y0.heap.size 31 #[.slice none 0 0, .slice s.W s.wd.length s.cw] := Bk.new' rfl
  have hVb : Below y0.heap.size y0 (y0.alloc (.cells #[.slice none 0 0, .slice s.W s.wd.length s.cw] 31)) := bl_alloc (Below.refl _ _) _
  generalize y0.alloc (.cells #[.slice none 0 0, .slice s.W s.wd.length s.cw] 31) = V1 at P5 BY hVb ⊢
  have hks1 : 1 ≤ s.ks.length := by rw [HS.out.lk]; exact hp1
  have hks2 := P5.sc.lk
  obtain ⟨kb, koff, hKe, hkb, -⟩ := P5.sc.rk 0 (by omega)
  have HK := P5.sc.rk
  rw [hKe] at HK
  clear k0 k1 k2 m0 m1 l1 l2 a0 a1 a2 a3 a4 a5 hpb
  obtain ⟨k0, k1, k2⟩ := bk3' P5.b1
  obtain ⟨⟨m0, m1⟩, -⟩ := bk2 P5.b2
  have l1 := P5.b1.lt
  have l2 := P5.b2.lt
  rw [hKe] at m0
  clear hKe
  obtain ⟨⟨n0, n1⟩, nf0, nf1⟩ := bk2 BY
  have l3 := BY.lt
  go_wp2_with (at_builtin; refine wpList_append_own _ rfl (.tmp 55) (.tmp 57) 29 rfl V1.heap.size 22 i1 (.slice none 0 0) 1 24 Try.underlying29 hi1 hy0 hy1 hy2 rfl (by decide) (.slice none 0 0) 0 [] rfl (World.ownsRow_nil _ _ _ _) ⟨kb, koff, none⟩ s.ks.length s.ck (s.ks.map kv) rfl (by simp) (rdk_news HK) (rdk_one _) ?d3 ?d4 (Nat.le_refl _) ?_)
  case d3 => simp only [maxLen]; omega
  case d4 => omega
  intro v2 V2 hown2 hg2 _
  have hb2 : Below V1.heap.size V1 V2 := Below.grown (Below.refl _ _) hg2 (Nat.le_refl _) (fun q hq => by simp [Value.ownBlock] at hq)
  obtain ⟨g, c2, rfl, hr2, hg0, hg1, hgf⟩ := own_keys1 (by simpa using hown2) (fun i hi => (P5.old hb2).sc.rk i hi |>.elim fun _ h => h.elim fun _ h => h.2.2.2) (by omega)
  have BY2 := BY.old hb2
  have P6 := P5.old hb2
  clear hown2 hg2 k0 k1 k2 m0 m1 l1 l2 n0 n1 nf0 nf1 HK hkb P5
  obtain ⟨⟨n0, n1⟩, nf0, nf1⟩ := bk2 BY2
  have l3 := BY2.lt
  go_upto_region 11 with fail
  have hgs : V2.grownBy (V2.setCell ⟨y0.heap.size, 0, none⟩ (.slice (some ⟨g, 0, none⟩) s.ks.length c2)) (some y0.heap.size) := gb_set (gb_refl _ _) (p := ⟨y0.heap.size, 0, none⟩) (.inl rfl) _
  have hgy : y0.grownBy (V2.setCell ⟨y0.heap.size, 0, none⟩ (.slice (some ⟨g, 0, none⟩) s.ks.length c2)) (some w.heap.size) := gb_set (gb_of _ (hVb.trans (hb2.mono hVb.size))) (.inr (Nat.le_refl _)) _
  have P7 := P4.turn hgy (P6.ta.far (p := ⟨y0.heap.size, 0, none⟩) P4.ta.lt _)
  have BY3 : Bk (V2.setCell ⟨y0.heap.size, 0, none⟩ (.slice (some ⟨g, 0, none⟩) s.ks.length c2)) y0.heap.size 31 #[.slice (some ⟨g, 0, none⟩) s.ks.length c2, .slice s.W s.wd.length s.cw] := BY2.set 0 _
  have hr3 := hr2.mix hgs (Away.some (by show g ≠ y0.heap.size; have := BY.lt; omega)) (fun i hi => P7.sc.rk i hi |>.elim fun _ h => h.elim fun _ h => h.2.2.2)
  have Hgf : Hid (∀ o, (V2.setCell ⟨y0.heap.size, 0, none⟩ (.slice (some ⟨g, 0, none⟩) s.ks.length c2)).frozen? ⟨g, o, none⟩ = false) := fun o => fr_set (hgf o)
  have hgV : g < (V2.setCell ⟨y0.heap.size, 0, none⟩ (.slice (some ⟨g, 0, none⟩) s.ks.length c2)).heap.size := by simpa using hg1
  have hyg : y0.heap.size < g := by have := BY.lt; omega
  generalize V2.setCell ⟨y0.heap.size, 0, none⟩ (.slice (some ⟨g, 0, none⟩) s.ks.length c2) = V3 at hgy P7 BY3 hr3 Hgf hgV ⊢
  clear hgf hgs hr2 BY BY2 P6 hb2 hVb n0 n1 nf0 nf1 l3 hg0 hg1
  go_wp2_with fail
  go_loopw [12, 13] (fun x i wr => ∃ q : Nat, q ≤ N ∧ i = .int .i64 q ∧ wr.ownsRow V3.heap.size 3 1 x (wk p s j o q).length ((wk p s j o q).map (Value.int .i64)) ∧ Below V3.heap.size V3 wr) (fun _ i _ => N - (intOf i).toNat)
  case atStart => exact ⟨0, Nat.zero_le _, rfl, World.ownsRow_nil _ _ _ _, Below.refl _ _⟩
  case round =>
    obtain ⟨q, hq, rfl, hown, hb⟩ := hrel
    have hwl := (wk_ks (p := p) (s := s) (j := j) (o := o) q).1
    have P8 := P7.old hb
    obtain ⟨k0, k1, k2⟩ := bk3' P8.b1
    obtain ⟨⟨m0, m1⟩, -⟩ := bk2 P8.b2
    have l1 := P8.b1.lt
    have l2 := P8.b2.lt
    obtain ⟨pb', poff', hpe', hpb', a0, a1, a2, a3, a4, a5⟩ := (P8.pa.rd).at j hj
    rw [Hpe.out] at hpe' k2
    cases hpe'
    rw [HN.out] at a4
    by_cases hlt : q < N
    · have hlt' : (q : Int) < N := by omega
      by_cases hqo : (q : Int) = o
      · have t1 : ((q : Int) == o) = true := beq_iff_eq.2 hqo
        have Hw := Lib.hid (wk_yes1 (p := p) (s := s) (j := j) hqo)
        clear hqo
        have hbz := hb.size
        go_wp2_with (at_builtin; refine wpList_append_own _ rfl _ _ 22 rfl V3.heap.size 3 i0 (.int .i64 0) 1 8 Try.underlying22 hi0 iz0 iz1 iz2 rfl (by decide) _ _ _ rfl (hown.alloc _) ⟨wr.heap.size, 0, none⟩ 1 1 [_] rfl rfl (one_cell _ _ _ _ rfl) ?c2 ?c3 ?c4 ?c5 ?_)
        case c2 => simp [Value.oneCell']
        case c3 => simp only [maxLen]; omega
        case c4 => omega
        case c5 => first | omega | (simp; omega)
        intro v6 w6 hown6 hgrow6 _
        have hb6 := Below.grown (bl_alloc hb _) hgrow6 (by have := hb.size; simp; omega) (fun q hq => by have := (hown.lt q hq).1; omega)
        have hown7 : w6.ownsRow V3.heap.size 3 1 v6 (wk p s j o (q + 1)).length ((wk p s j o (q + 1)).map (Value.int .i64)) := by
          rw [Hw.out, List.map_append, List.length_append]; exact hown6
        clear hown6 hgrow6 hown hb P8 k0 k1 k2 m0 m1 l1 l2 a0 a1 a2 a3 a4 a5
        go_wp2_with fail
        go_roundw
        case rel => exact ⟨q + 1, by omega, by go_num, hown7, hb6⟩
        case measure => simp [intOf]; omega
      · have t1 : ((q : Int) == o) = false := beq_eq_false_iff_ne.2 hqo
        have hac := accepts_any p s (j : Int) (q : Int) wr P8.pa P8.sc
        rw [Hpav.out] at hac
        cases hq2 : accS p s (j : Int) (q : Int)
        · have Hw := Lib.hid (wk_no hqo hq2)
          rw [hq2] at hac
          clear hqo hq2
          go_wp2_with fail
          refine hac.mono ?_
          rintro e w5 ⟨rfl, hb5⟩
          have hown5 := own_old hown hb5
          have hbb := bl_trans hb hb5
          clear hac hown hb hb5 P8 k0 k1 k2 m0 m1 l1 l2 a0 a1 a2 a3 a4 a5
          go_wp2_with fail
          go_roundw
          case rel => exact ⟨q + 1, by omega, by go_num, by rw [Hw.out]; exact hown5, hbb⟩
          case measure => simp [intOf]; omega
        · have Hw := Lib.hid (wk_yes2 (o := o) hq2)
          rw [hq2] at hac
          clear hqo hq2
          go_wp2_with fail
          refine hac.mono ?_
          rintro e w5 ⟨rfl, hb5⟩
          have hown5 := own_old hown hb5
          have hbb := bl_trans hb hb5
          clear hac hown hb hb5 P8 k0 k1 k2 m0 m1 l1 l2 a0 a1 a2 a3 a4 a5
          have hbz := hbb.size
          go_wp2_with (at_builtin; refine wpList_append_own _ rfl _ _ 22 rfl V3.heap.size 3 i0 (.int .i64 0) 1 8 Try.underlying22 hi0 iz0 iz1 iz2 rfl (by decide) _ _ _ rfl (hown5.alloc _) ⟨w5.heap.size, 0, none⟩ 1 1 [_] rfl rfl (one_cell _ _ _ _ rfl) ?c2 ?c3 ?c4 ?c5 ?_)
          case c2 => simp [Value.oneCell']
          case c3 => simp only [maxLen]; omega
          case c4 => omega
          case c5 => first | omega | (simp; omega)
          intro v6 w6 hown6 hgrow6 _
          have hb6 := Below.grown (bl_alloc hbb _) hgrow6 (by have := hbb.size; simp; omega) (fun q hq => by have := (hown5.lt q hq).1; omega)
          have hown7 : w6.ownsRow V3.heap.size 3 1 v6 (wk p s j o (q + 1)).length ((wk p s j o (q + 1)).map (Value.int .i64)) := by
            rw [Hw.out, List.map_append, List.length_append]; exact hown6
          clear hown6 hgrow6 hown5 hbb
          go_wp2_with fail
          go_roundw
          case rel => exact ⟨q + 1, by omega, by go_num, hown7, hb6⟩
          case measure => simp [intOf]; omega
    · obtain rfl : q = N := by omega
      obtain ⟨A1, c1, rfl, hrk, hA1⟩ := own_ints hown
      have BY8 := BY3.old hb
      have hr8 := hr3.old hb
      obtain ⟨b', off', e', _, hgc, _⟩ := hr8 j (by rw [HS.out.lk]; exact hj)
      cases e'
      rw [Nat.zero_add] at hgc
      have hgf := ((bcell hb V3.heap.size (Nat.le_refl _)).2 g j hgV).trans (Hgf.out j)
      obtain ⟨⟨n0, n1⟩, nf0, nf1⟩ := bk2 BY8
      have l3 := BY8.lt
      have hjk : (j : Int) < s.ks.length := by rw [HS.out.lk]; omega
      go_upto_region 18 with fail
      obtain ⟨s', hs'⟩ : ∃ s' : Sc, s' = sky s (some ⟨g, 0, none⟩) c2 j ⟨A1, c1, wk p s j o q⟩ := ⟨_, rfl⟩
      have hgz : wr.grownBy (wr.setCell ⟨g, j, none⟩ (.slice A1 (wk p s j o q).length c1)) (some g) := gb_set (gb_refl _ _) (p := ⟨g, j, none⟩) (.inl rfl) _
      have hgy9 : y0.grownBy (wr.setCell ⟨g, j, none⟩ (.slice A1 (wk p s j o q).length c1)) (some w.heap.size) := gb_set (gb_below hgy hb) (.inr (by show y0.heap.size ≤ g; omega)) _
      have P9 := P4.turn hgy9 (P8.ta.far (p := ⟨g, j, none⟩) (by show w.heap.size < g; have := P4.ta.lt; omega) _)
      have BY9 : Bk (wr.setCell ⟨g, j, none⟩ (.slice A1 (wk p s j o q).length c1)) y0.heap.size 31 (scc s') := by
        have := BY8.far (p := ⟨g, j, none⟩) (by show y0.heap.size ≠ g; omega) (.slice A1 (wk p s j o q).length c1)
        rw [hs']; unfold sky; simp only [scc, List.length_set]; exact this
      have hsc9 : ScOk (wr.setCell ⟨g, j, none⟩ (.slice A1 (wk p s j o q).length c1)) s' := by
        rw [hs']
        refine sky_sc P9.sc ?_ (by rw [HS.out.lk]; exact hj) (by show (wk p s j o q).length ≤ 1000; omega)
        refine rdk_set (k := ⟨A1, c1, wk p s j o q⟩) hr8 (by rw [HS.out.lk]; exact hj) ?_ (fun i hi => P9.sc.rk i hi |>.elim fun _ h => h.elim fun _ h => h.2.2.2)
        exact hrk.grown hgz (fun a ha => by have := (hA1 a ha).1; omega)
      have hr9 := hra.grown hgy9 (Away.some (by show mb ≠ w.heap.size; simp at hMn0; omega))
      have HS' : Hid (SOk p s') := by rw [hs']; exact sky_ok HS.out hj Hk2.out HN.out rfl
      have hmm := fun i hi => sky_mark (K := some ⟨g, 0, none⟩) (c := c2) (k := ⟨A1, c1, wk p s j o q⟩) HS.out hj Hk2.out HN.out rfl hob Hpa.out.1 Hpa.out.2 i hi
      rw [← hs'] at hmm
      have Hmm := Lib.hid hmm
      clear hmm hs'
      generalize wr.setCell ⟨g, j, none⟩ (.slice A1 (wk p s j o q).length c1) = V5 at P9 BY9 hsc9 hr9 ⊢
      clear hgz hgy9 BY8 hr8 hgc hgf n0 n1 nf0 nf1 l3 hown hrk hA1 P8 k0 k1 k2 m0 m1 l1 l2 a0 a1 a2 a3 a4 a5 hpb' hb hgy P7 BY3 hr3 Hgf hgV hlt hjk hq
      obtain ⟨k0, k1, k2⟩ := bk3' P9.b1
      obtain ⟨⟨m0, m1⟩, -⟩ := bk2 P9.b2
      have l1 := P9.b1.lt
      have l2 := P9.b2.lt
      go_wp2_with fail
      refine (closed_any p s an _ cM _ P9.pa P9.sc hr9 (by omega)).mono ?_
      rintro e y1 ⟨Ma, ca, rfl, hra1, -, -, hb1⟩
      rw [clo_ok HS.out Hpa.out.1 Hpa.out.2, mks_len]
      replace hra1 : RdI y1 .i64 Ma (mks p s an p.l.length) := by have := hra1; rw [clo_ok HS.out Hpa.out.1 Hpa.out.2] at this; exact this
      have Q1 := P9.old hb1
      have BQ1 := BY9.old hb1
      have hs1 := hsc9.old hb1
      have hn1 := hr9.old hb1
      clear P9 BY9 hsc9 hr9 hb1 k0 k1 k2 m0 m1 l1 l2
      obtain ⟨k0, k1, k2⟩ := bk3' Q1.b1
      obtain ⟨⟨m0, m1⟩, -⟩ := bk2 Q1.b2
      have l1 := Q1.b1.lt
      have l2 := Q1.b2.lt
      obtain ⟨⟨n0, n1⟩, -⟩ := bk2 BQ1
      have l3 := BQ1.lt
      go_wp2_with fail
      refine (closed_any p s' an _ cM _ Q1.pa hs1 hn1 (by omega)).mono ?_
      rintro e y2 ⟨Mb, cb, rfl, hrb1, -, -, hb2⟩
      rw [clo_ok HS'.out Hpa.out.1 Hpa.out.2, mks_len]
      replace hrb1 : RdI y2 .i64 Mb (mks p s' an p.l.length) := by have := hrb1; rw [clo_ok HS'.out Hpa.out.1 Hpa.out.2] at this; exact this
      have Q2 := Q1.old hb2
      have hra2 := hra1.old hb2
      have hn2 := hn1.old hb2
      clear Q1 BQ1 hs1 hn1 hra1 hb2 k0 k1 k2 m0 m1 l1 l2 n0 n1 l3
      have t1 : ((p.l.length : Int) != (an.length : Int)) = false := by simp [Hpa.out.1]
      have t1' : (p.l.length != an.length) = false := by simp [Hpa.out.1]
      go_wp2_with fail
      clear t1 t1'
      go_loop [18] (fun i => ∃ n : Nat, n ≤ p.l.length ∧ i = .int .i64 n) (fun i => p.l.length - (intOf i).toNat)
      case atStart => exact ⟨0, Nat.zero_le _, rfl⟩
      case round =>
        obtain ⟨n, hn, rfl⟩ := hrel
        by_cases hlt : n < p.l.length
        · have hna : n < an.length := by rw [Hpa.out.1]; exact hlt
          obtain ⟨b1, f1, e1, hbl1, hc1⟩ := hra2 n (by rw [mks_len]; exact hlt)
          obtain ⟨b2, f2, e2, hbl2, hc2⟩ := hrb1 n (by rw [mks_len]; exact hlt)
          obtain ⟨b3, f3, e3, hbl3, hc3⟩ := hn2 n hna
          cases e3
          subst e1 e2
          rw [Hmm.out n hlt] at hc2
          obtain ⟨pb', poff', hpe', hpb', a0, a1, a2, a3, a4, a5⟩ := (Q2.pa.rd).at n hlt
          rw [Hpe.out] at hpe'
          cases hpe'
          obtain ⟨k0, k1, k2⟩ := bk3' Q2.b1
          obtain ⟨⟨m0, m1⟩, -⟩ := bk2 Q2.b2
          have l1 := Q2.b1.lt
          have l2 := Q2.b2.lt
          rw [Hpe.out] at k2
          have hnl : (n : Int) < p.l.length := by omega
          have hnl2 : (n : Int) < an.length := by omega
          have c0n : 0 ≤ n := Nat.zero_le _
          by_cases c1 : n = j
          · have b1 : ((n : Int) == (j : Int)) = true := by simp [c1]
            have b1' : (n == j) = true := by simp [c1]
            by_cases c2 : gi an n = o
            · have b2 : (gi an n == o) = true := by simp [c2]
              rw [if_pos ⟨c1, c2⟩] at hc2
              clear c1 c2
              go_wp2_with fail
              go_round
              case rel => exact ⟨n + 1, by omega, by go_num⟩
              case measure => simp [intOf]; omega
            · have b2 : (gi an n == o) = false := by simp [c2]
              rw [if_neg (fun x => c2 x.2)] at hc2
              clear c1 c2
              go_wp2_with fail
              go_round
              case rel => exact ⟨n + 1, by omega, by go_num⟩
              case measure => simp [intOf]; omega
          · have b1 : ((n : Int) == (j : Int)) = false := by rw [beq_eq_false_iff_ne]; omega
            have b1' : (n == j) = false := by simp [c1]
            rw [if_neg (fun x => c1 x.1)] at hc2
            clear c1
            go_wp2_with fail
            go_round
            case rel => exact ⟨n + 1, by omega, by go_num⟩
            case measure => simp [intOf]; omega
        · have hnl : ¬ n < an.length := by rw [Hpa.out.1]; exact hlt
          have hnl' : ¬ (n : Int) < an.length := by omega
          go_wp2_with fail
          refine (awake_any _).mono ?_
          rintro e u4 ⟨rfl, hb4⟩
          go_wp2_with fail
          go_ret
          exact ⟨rfl, bl_trans Q2.be hb4⟩
end Go.Proofs.Ytokddjohdodkmaa.Tm
