/- Walks: parts and papers off the tape without mistakes; their marks are at most 12. -/
import Derived.Test.YtokddjohdodkmaaTPA
import Derived.Test.YtokddjohdodkmaaHK
import Derived.Deep.RegionLaw
import Derived.Deep.AppendLies
import Derived.WalkKit
import Derived.WalkSpells
import Derived.WalkLawsBesides
import Derived.Deep.QuietTactic
import Derived.BigQuiet
import Derived.Deep.Draws
import Derived.Deep.AppendLies
import Derived.Laws.OwnMore
import Derived.Laws.BytesArg
import Derived.Lib.Hide
import Derived.Deep.LoopGhost
import Derived.Deep.DeepCutAuto
namespace Go.Proofs.Ytokddjohdodkmaa.Tm
open Go.RowKit Go.Proofs.Ytokddjohdodkmaa.Mw
set_option linter.unusedVariables false
set_option linter.unusedSimpArgs false

def TPz (tp : Nat) (w : World) (e : Ending) (w' : World) : Prop := ∃ p : Pt, vp p = true ∧ p.m ≤ 12 ∧ e = .returned (pv p) ∧ Tp w' tp ∧ w.grownBy w' (some tp)
set_option maxHeartbeats 1000000 in
theorem partz_any (tp : Nat) (w : World) (ht : Tp w tp) :
    Calls Try.prog 42 #[.pointer (some ⟨tp, 0, none⟩), .int .i64 0] w (TPz tp w) := by
  have hlt := ht.lt
  go_enter Try.func42, Try.ntmps42
  go_wp2_with fail
  refine (range_any tp 1 12 _ (ht.alloc _) (by omega) (by omega) (by omega)).mono ?_
  rintro e w1 ⟨m, hm, rfl, ht1, hg1⟩
  have r1 : Bk w1 w.heap.size 49 (pa default) := Bk.kept (by exact Bk.new' rfl) hg1 (by omega)
  have hc1 : w.grownBy w1 (some tp) := gb_trans (gb_alloc (gb_refl _ _) _) hg1
  clear hg1
  go_wp2_with fail
  refine (next_any tp 4 _ ht1 (by omega) (by omega)).mono ?_
  rintro e w2 ⟨t, htt, rfl, ht2, hg2⟩
  have r2 := r1.kept hg2 (by omega)
  have hc2 := gb_trans hc1 hg2
  clear hg2 hc1 r1 ht1
  go_wp2_with fail
  refine (next_any tp 3 _ ht2 (by omega) (by omega)).mono ?_
  rintro e w3 ⟨o, ho, rfl, ht3, hg3⟩
  have r3 := r2.kept hg3 (by omega)
  have hc3 := gb_trans hc2 hg3
  clear hg3 hc2 r2 ht2
  have hl3 := ht3.lt
  have hz3 := r3.lt
  go_wp2_with fail
  refine (next_any tp 3 _ (ht3.alloc _) (by omega) (by omega)).mono ?_
  rintro e w4 ⟨z, hz, rfl, ht4, hg4⟩
  have r4 := (r3.alloc _).kept hg4 (by omega)
  have q4 : Bk w4 w3.heap.size 49 (pa ⟨1, m, t, o, 0, 0⟩) := Bk.kept (by exact Bk.new' rfl) hg4 (by omega)
  have hc4 := gb_trans (gb_alloc hc3 _) hg4
  clear hg4 hc3 r3 ht3
  go_upto_if 15 with fail
  go_cut [] (fun wx => ∃ p : Pt, (vp p = true ∧ p.m ≤ 12) ∧ Bk wx w3.heap.size 49 (pa p) ∧ Bk wx w.heap.size 49 (pa default) ∧ Tp wx tp ∧ w.grownBy wx (some tp))
  case first =>
    by_cases hz0 : z = 0
    · have hzb : (z == 0) = true := by simp [hz0]
      go_wp2_with fail
      refine (range_any tp 2 5 _ ht4 (by omega) (by omega) (by omega)).mono ?_
      rintro e w5 ⟨nn, hnn, rfl, ht5, hg5⟩
      have r5 := r4.kept hg5 (by omega)
      have q5 := q4.kept hg5 (by omega)
      have hc5 := gb_trans hc4 hg5
      obtain ⟨⟨c0, c1, c2, c3, c4, c5⟩, f0, f1, f2, f3, f4, f5⟩ := bk6 q5
      go_wp2_with fail
      refine (next_any tp nn _ ((ht5.far (by simp; omega) _).far (by simp; omega) _) (by omega) (by omega)).mono ?_
      rintro e w6 ⟨y, hy, rfl, ht6, hg6⟩
      have r6 := ((r5.far (by simp; omega) _).far (by simp; omega) _).kept hg6 (by omega)
      have q6 : Bk w6 w3.heap.size 49 (pa ⟨2, m, t, o, nn, 0⟩) := ((q5.set 0 (.int .i64 2)).set 4 (.int .i64 nn)).kept hg6 (by omega)
      have hc6 := gb_trans (gb_set (gb_set hc5 (.inr (by simp; omega)) _) (.inr (by simp; omega)) _) hg6
      clear c0 c1 c2 c3 c4 c5 f0 f1 f2 f3 f4 f5 q4 q5 r4 r5 hc4 hc5 hg5 hg6 ht4 ht5
      go_wp2_with fail
      refine (range_any tp 1 3 _ ht6 (by omega) (by omega) (by omega)).mono ?_
      rintro e w7 ⟨m2, hm2, rfl, ht7, hg7⟩
      have r7 := r6.kept hg7 (by omega)
      have q7 := q6.kept hg7 (by omega)
      have hc7 := gb_trans hc6 hg7
      clear r6 q6 hc6 hg7 ht6
      obtain ⟨⟨c0, c1, c2, c3, c4, c5⟩, f0, f1, f2, f3, f4, f5⟩ := bk6 q7
      go_wp2_with fail
      go_meet
      exact ⟨⟨2, m2, t, o, nn, y⟩, ⟨(vp_iff _).2 ⟨by simp; omega, by simp; omega, by simp; omega, by simp; omega, by simp; omega, by simp; omega, .inr ⟨rfl, by simp; omega, by simp; omega, by simp; omega, by simp; omega⟩⟩, by show m2 ≤ 12; omega⟩, (q7.set 5 (.int .i64 y)).set 1 (.int .i64 m2), (r7.far (by simp; omega) _).far (by simp; omega) _, (ht7.far (by simp; omega) _).far (by simp; omega) _, gb_set (gb_set hc7 (.inr (by simp; omega)) _) (.inr (by simp; omega)) _⟩
    · have hzb : (z == 0) = false := by simp [hz0]
      go_wp2_with fail
      go_meet
      exact ⟨⟨1, m, t, o, 0, 0⟩, ⟨(vp_iff _).2 ⟨by simp; omega, by simp; omega, by simp; omega, by simp; omega, by simp; omega, by simp; omega, .inl ⟨rfl, rfl, rfl⟩⟩, by show m ≤ 12; omega⟩, q4, r4, ht4, hc4⟩
  case rest =>
    clear q4 r4 ht4 hc4
    obtain ⟨p, hv, q, r, ht5, hc⟩ := hcut
    have hlc := ht5.lt
    have hn0 : (0 : Int) ≤ 0 := Int.le_refl _
    have h64 := vp_64 hv.1
    have hvp := hv
    have H64 := Lib.hid h64
    have HV := Lib.hid hvp
    clear h64 hvp hv
    obtain ⟨⟨c0, c1, c2, c3, c4, c5⟩, f0, f1, f2, f3, f4, f5⟩ := bk6 q
    obtain ⟨⟨d0, d1, d2, d3, d4, d5⟩, e0, e1, e2, e3, e4, e5⟩ := bk6 r
    go_wp2_with fail
    refine bodyPost_ret (v := pv p) (by simp [results, Try.results42, go_sem, c0, c1, c2, c3, c4, c5, d0, d1, d2, d3, d4, d5]) rfl ⟨p, HV.out.1, HV.out.2, rfl, ?_, ?_⟩
    · exact (((((ht5.far (by simp; omega) _).far (by simp; omega) _).far (by simp; omega) _).far (by simp; omega) _).far (by simp; omega) _).far (by simp; omega) _
    · exact gb_set (gb_set (gb_set (gb_set (gb_set (gb_set hc (.inr (by simp)) _) (.inr (by simp)) _) (.inr (by simp)) _) (.inr (by simp)) _) (.inr (by simp)) _) (.inr (by simp)) _
def M12 (l : List Pt) : Prop := ∀ i, i < l.length → (gp l i).m ≤ 12
theorem m12_snoc {l : List Pt} {p : Pt} (h : M12 l) (hp : p.m ≤ 12) : M12 (l ++ [p]) := fun i hi => by
  by_cases h1 : i < l.length
  · rw [gp_left _ _ _ h1]; exact h i h1
  · have : i = l.length := by simp at hi; omega
    subst this
    rw [gp_snoc]; exact hp
theorem sm_12 {l : List Pt} (h : M12 l) : ∀ k, k ≤ l.length → sm l k ≤ 12 * k
  | 0, _ => by simp [sm]
  | k + 1, hk => by
    have := sm_12 h k (by omega)
    have := h k (by omega)
    rw [sm]; omega
theorem vpp_12 {l : List Pt} (h : M12 l) (h1 : 1 ≤ l.length) (h6 : l.length ≤ 6) (hp : psOk l = true) : vpp 0 0 l = true := by
  rw [vpp_s (decide_eq_true (by omega)) hp]
  have := sm_12 h l.length (Nat.le_refl _)
  exact decide_eq_true (by omega)
def TPaz (c v : Int) (tp : Nat) (w : World) (e : Ending) (w' : World) : Prop := ∃ (l : List Pt) (vP : Value), 1 ≤ l.length ∧ l.length ≤ 6 ∧ psOk l = true ∧ M12 l ∧ w'.ownsRow w.heap.size 49 6 vP l.length (l.flatMap pl) ∧ e = .returned (.agg #[.int .i64 c, .int .i64 v, vP]) ∧ Tp w' tp ∧ w.grownBy w' (some tp)

set_option maxHeartbeats 2000000 in
set_option maxRecDepth 100000 in
theorem paperz_any (tp : Nat) (c v : Int) (w : World) (ht : Tp w tp) :
    Calls Try.prog 29 #[.pointer (some ⟨tp, 0, none⟩), .int .i64 c, .int .i64 v] w (TPaz c v tp w) := by
  obtain ⟨i0, hi0, hz0, hz1, hz2⟩ := info_parts infoPart'
  have hlt := ht.lt
  go_enter Try.func29, Try.ntmps29
  go_wp2_with fail
  refine (range_any tp 1 6 _ ((ht.alloc _).alloc _) (by omega) (by omega) (by omega)).mono ?_
  rintro e w2 ⟨N0, hN, rfl, ht2, hg2⟩
  obtain ⟨N, rfl⟩ := Int.eq_ofNat_of_zero_le (show 0 ≤ N0 by omega)
  have r2 : Bk w2 w.heap.size 27 ppz := Bk.kept (by (repeat (first | (refine Bk.new' ?_; (first | rfl | (simp; done) | (simp; omega))) | refine Bk.alloc ?_ _ | refine Bk.drewN ?_ _ | refine Bk.drew ?_ | with_reducible assumption))) hg2 (by omega)
  have hc2 := gb_trans (gb_alloc (gb_alloc (gb_refl w (some tp)) _) _) hg2
  have hI2 : PS w2 (w.heap.size + 1) tp (w.heap.size + 1 + 1) c v [] (.slice none 0 0) := ⟨Bk.kept (by (repeat (first | (refine Bk.new' ?_; (first | rfl | (simp; done) | (simp; omega))) | refine Bk.alloc ?_ _ | refine Bk.drewN ?_ _ | refine Bk.drew ?_ | with_reducible assumption))) hg2 (by omega), World.ownsRow_nil _ _ _ _, by simp [Value.ownBlock], ht2, by omega, by omega⟩
  clear hg2
  go_wp2_with fail
  go_loopw [8] (fun j wr => ∃ (k : Nat) (ps : List Pt) (vP : Value), j = .int .i64 k ∧ ps.length + k = N ∧ (psOk ps = true ∧ M12 ps) ∧ PS wr (w.heap.size + 1) tp (w.heap.size + 1 + 1) c v ps vP ∧ Bk wr w.heap.size 27 ppz ∧ w.grownBy wr (some tp)) (fun j _ => (intOf j).toNat)
  case atStart => exact ⟨N, [], _, rfl, by simp, ⟨rfl, fun i hi => absurd hi (by simp)⟩, hI2, r2, hc2⟩
  case round =>
    clear hI2 r2 hc2 ht2
    obtain ⟨k, ps, vP, rfl, hlen, hps, hI, hr, hc⟩ := hrel
    have Hlen := Lib.hid hlen
    have Hps := Lib.hid hps
    have hl1 : ps.length ≤ 6 := by omega
    have hk3 : k ≤ 6 := by omega
    clear hlen hps
    by_cases hk0 : 0 < k
    · have hk0' : (0 : Int) < k := by omega
      have d3 : wr.cell? ⟨w.heap.size + 1, 2, none⟩ = some vP := hI.bk.cell 2
      go_wp2_with fail
      go_region_law (first
        | (refine step_append_lies _ (by rfl) (.tmp 19) (.tmp 22) 25 (by rfl) (w.heap.size + 1 + 1) 49 i0 (pv ⟨0, 0, 0, 0, 0, 0⟩) 6 48 Try.underlying25 hi0 hz0 hz1 hz2 rfl (by decide) vP ps.length (ps.flatMap pl) (by rfl) (hI3.ps.alloc _) ⟨w3.heap.size, 0, none⟩ 1 1 (pl p) (by rfl) rfl (news_part' p (by exact Bk.new' rfl)) (pl_one' p) (by decide) (by simp only [maxLen]; omega) (by omega) (by simp; omega) _ rfl ?_
           intro g4 cap4 w4 hown4 hgrow4 hat4 hlt4
           have hB4 := (hI3.alloc (.cells (pl p).toArray 49)).bk.grown hgrow4 (fun e => by have := (hI3.ps.lt _ e.symm).1; omega)
           have e3 : w4.cell? ⟨w.heap.size + 1, 2, none⟩ = some vP := hB4.cell 2
           have ef : w4.frozen? ⟨w.heap.size + 1, 2, none⟩ = false := hB4.frozen 2)
        | (go_simp
           go_at_call 42
           refine (partz_any tp _ (by exact hI.tape)).mono ?_
           rintro e w3 ⟨p, hpv, hp12, rfl, ht3, hg3⟩
           have hI3 := hI.turn (gb_trans (gb_drew (gb_refl _ _)) hg3) ht3
           have d4 : w3.cell? ⟨w.heap.size + 1, 2, none⟩ = some vP := hI3.bk.cell 2
           have hb3 := hI3.bk.lt
           have hr3 := hr.kept (gb_trans (gb_drew (gb_refl _ _)) hg3) (by omega)
           have hc3 := gb_trans hc (gb_trans (gb_drew (gb_refl _ _)) hg3)))
      all_goals
        have hI4 := (hI3.alloc _).add (l := [p]) hgrow4 hown4 (ne_lies hI3.ne hat4 (by simp; omega))
        have hr4 := Bk.far (p := ⟨w.heap.size + 1, 2, none⟩) ((hr3.alloc _).grown hgrow4 (fun e => by have := (hI3.ps.lt _ e.symm).1; omega)) (by simp) (.slice (some ⟨g4, 0, none⟩) (ps.length + 1) cap4)
        have hc4 := gb_set (p := ⟨w.heap.size + 1, 2, none⟩) (gb_grown (gb_alloc hc3 _) hgrow4 (fun k hk => by have := (hI3.ps.lt k hk).1; omega)) (.inr (by simp)) (.slice (some ⟨g4, 0, none⟩) (ps.length + 1) cap4)
        clear hgrow4 hown4 hI3 hr3 hc3 hg3 d3 d4 e3 ef
        go_wp2_with fail
        go_roundw
        case rel => exact ⟨k - 1, ps ++ [p], _, by go_num, by have := Hlen.out; simp; omega, ⟨psOk_snoc' Hps.out.1 hpv, m12_snoc Hps.out.2 hp12⟩, hI4, hr4, hc4⟩
        case measure => simp [intOf]; omega
    · have hN1 : 1 ≤ ps.length := by have := Hlen.out; omega
      obtain ⟨⟨c0, c1, c2⟩, f0, f1, f2⟩ := bk3 hI.bk
      obtain ⟨⟨e0, e1, e2⟩, m0, m1, m2⟩ := bk3 hr
      have HG := Lib.hid (set3 wr w.heap.size (.int .i64 c) (.int .i64 v) vP)
      have HO := Lib.hid (own_away hI.ps HG.out (by omega))
      have HT := Lib.hid (far3 hI.tape w.heap.size hlt (.int .i64 c) (.int .i64 v) vP)
      obtain ⟨A1, cA, rfl, _, _⟩ := own_parts hI.ps
      go_wp2_with fail
      refine bodyPost_ret (v := .agg #[.int .i64 c, .int .i64 v, .slice A1 ps.length cA]) (by simp [results, Try.results29, go_sem, c0, c1, c2, e0, e1, e2]) rfl ⟨ps, _, hN1, hl1, Hps.out.1, Hps.out.2, ?_, rfl, HT.out, gb_grown hc HG.out (fun k hk => by cases hk; omega)⟩
      have := HO.out
      exact ⟨this.1, this.2.imp id (fun ⟨g', cap', cur', h1, h2, h3⟩ => ⟨g', cap', cur', h1, by omega, h3⟩)⟩
end Go.Proofs.Ytokddjohdodkmaa.Tm
