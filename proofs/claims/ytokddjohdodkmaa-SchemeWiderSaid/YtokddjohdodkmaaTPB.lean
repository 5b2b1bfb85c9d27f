/- Walks: papers with a mistake off the tape. -/
import Derived.Test.YtokddjohdodkmaaTPA
import Derived.WalkKit
import Derived.WalkSpells
import Derived.WalkLawsBesides
import Derived.Deep.QuietTactic
import Derived.BigQuiet
import Derived.Deep.Draws
import Derived.Deep.AppendLies
import Derived.Laws.OwnMore
import Derived.Laws.BytesArg
import Derived.Lib.Hide
import Derived.Deep.LoopGhost
import Derived.Deep.DeepCutAuto
import Derived.Deep.RegionLaw
import Derived.Deep.AppendLies
namespace Go.Proofs.Ytokddjohdodkmaa.Tm
open Go.RowKit Go.Proofs.Ytokddjohdodkmaa.Mw
set_option linter.unusedVariables false
set_option linter.unusedSimpArgs false

/-- All parts have small numbers. -/
def PL (l : List Pt) : Prop := ∀ i, i < l.length → P64 (gp l i)
theorem PL_nil : PL [] := fun i hi => absurd hi (by simp)
theorem PL_snoc {l : List Pt} {p : Pt} (h : PL l) (hp : P64 p) : PL (l ++ [p]) := fun i hi => by
  by_cases hlt : i < l.length
  · rw [gp_left l [p] i hlt]; exact h i hlt
  · have : i = l.length := by simp at hi; omega
    subst this
    rw [gp_snoc]; exact hp
theorem PL_ok {l : List Pt} (h : psOk l = true) : PL l := fun i hi => vp_64 (allI_at h i hi)
/-- What the ending of LoosePaper is. -/
def TLp (tp : Nat) (w : World) (e : Ending) (w' : World) : Prop := ∃ (c v : Int) (l : List Pt) (A : Option Addr) (k : Nat), (l.length ≤ 20 ∧ PL l) ∧ RdP w' A l ∧ (∀ a, A = some a → w.heap.size ≤ a.block) ∧ e = .returned (.agg #[.int .i64 c, .int .i64 v, .slice A l.length k]) ∧ Tp w' tp ∧ w.grownBy w' (some tp)

set_option maxHeartbeats 4000000 in
set_option maxRecDepth 100000 in
theorem loosep_any (tp : Nat) (n : Int) (w : World) (ht : Tp w tp) (h1 : 1 ≤ n) (h2 : n ≤ 1000) :
    Calls Try.prog 13 #[.pointer (some ⟨tp, 0, none⟩), .int .i64 n] w (TLp tp w) := by
  obtain ⟨i0, hi0, hz0, hz1, hz2⟩ := info_parts infoPart'
  have hlt := ht.lt
  go_enter Try.func13, Try.ntmps13
  go_wp2_with fail
  refine (range_any tp 0 3 _ (ht.alloc _) (by omega) (by omega) (by omega)).mono ?_
  rintro e w1 ⟨c, hc, rfl, ht1, hg1⟩
  have r1 : Bk w1 w.heap.size 27 ppz := Bk.kept (by exact Bk.new' rfl) hg1 (by omega)
  have hc1 := gb_trans (gb_alloc (gb_refl w (some tp)) _) hg1
  go_wp2_with fail
  refine (next_any tp 3 _ ht1 (by omega) (by omega)).mono ?_
  rintro e w2 ⟨v, hv, rfl, ht2, hg2⟩
  have r2 := r1.kept hg2 (by omega)
  have hc2 := gb_trans hc1 hg2
  clear hg1 hg2 r1 hc1 ht1
  go_wp2_with fail
  refine (paper_any tp c v _ ht2).mono ?_
  rintro e w3 ⟨l, vP, hl1, hl6, hps, hown, rfl, ht3, hg3⟩
  have HPL := Lib.hid (PL_ok hps)
  have r3 := r2.kept hg3 (by omega)
  have hc3 := gb_trans hc2 hg3
  have hz3 := r3.lt
  have hl3 := ht3.lt
  have hl2 := r2.lt
  have hw23 := hg3.size
  have hI : PS (w3.alloc (.cells #[.int .i64 c, .int .i64 v, vP] 27)) w3.heap.size tp w2.heap.size c v l vP := ⟨by exact Bk.new' rfl, hown.alloc _, fun e => by have := (hown.lt _ e).2; omega, ht3.alloc _, hl3, ht2.lt⟩
  have r4 := r3.alloc (.cells #[.int .i64 c, .int .i64 v, vP] 27)
  have hc4 := gb_alloc hc3 (.cells #[.int .i64 c, .int .i64 v, vP] 27)
  have htl := ht2.lt
  obtain ⟨A0, k0, rfl, _, _⟩ := own_parts hown
  clear hg3 r2 hc2 r3 hc3 hown ht3
  go_wp2_with fail
  refine (one_any tp n _ hI.tape (by omega) (by omega)).mono ?_
  rintro e w6 ⟨y, rfl, ht6, hg6⟩
  have hI6 := hI.turn hg6 ht6
  have hr6 := r4.kept hg6 (by omega)
  have hc6 := gb_trans hc4 hg6
  clear hI r4 hc4 hg6 ht6
  go_upto_if 19 with fail
  go_cut [] (fun wx => ∃ (c v : Int) (l : List Pt) (vP : Value), (l.length ≤ 20 ∧ PL l) ∧ PS wx w3.heap.size tp w2.heap.size c v l vP ∧ Bk wx w.heap.size 27 ppz ∧ w.grownBy wx (some tp))
  case first =>
    cases y
    · go_wp2_with fail
      go_meet
      exact ⟨c, v, l, _, ⟨by omega, HPL.out⟩, hI6, hr6, hc6⟩
    · go_wp2_with fail
      refine (next_any tp 5 _ hI6.tape (by omega) (by omega)).mono ?_
      rintro e w7 ⟨z, hz7, rfl, ht7, hg7⟩
      have hI7 := hI6.turn hg7 ht7
      have hr7 := hr6.kept hg7 (by omega)
      have hc7 := gb_trans hc6 hg7
      have hb7 := hI7.bk.lt
      clear hI6 hr6 hc6 hg7 ht7
      have hz8 : z = 0 ∨ z = 1 ∨ z = 2 ∨ z = 3 ∨ z = 4 := by omega
      obtain ⟨⟨c0, c1, c2⟩, f0, f1, f2⟩ := bk3 hI7.bk
      rcases hz8 with rfl | rfl | rfl | rfl | rfl
      · go_wp2_with fail
        refine (wild_any tp _ hI7.tape).mono ?_
        rintro e w8 ⟨u, hu, rfl, ht8, hg8⟩
        have hI8 := hI7.turn hg8 ht8
        have hr8 := hr7.kept hg8 (by omega)
        have hc8 := gb_trans hc7 hg8
        clear c0 c1 c2 f0 f1 f2 hI7 hr7 hc7 hg8
        obtain ⟨⟨c0, c1, c2⟩, f0, f1, f2⟩ := bk3 hI8.bk
        go_wp2_with fail
        go_meet
        exact ⟨_, _, l, _, ⟨by omega, HPL.out⟩, hI8.setC u, hr8.far (by simp; omega) _, gb_set hc8 (.inr (by simp; omega)) _⟩
      · go_wp2_with fail
        refine (range_any tp (-1) 5 _ hI7.tape (by omega) (by omega) (by omega)).mono ?_
        rintro e w8 ⟨u, hu, rfl, ht8, hg8⟩
        have hI8 := hI7.turn hg8 ht8
        have hr8 := hr7.kept hg8 (by omega)
        have hc8 := gb_trans hc7 hg8
        clear c0 c1 c2 f0 f1 f2 hI7 hr7 hc7 hg8
        obtain ⟨⟨c0, c1, c2⟩, f0, f1, f2⟩ := bk3 hI8.bk
        go_wp2_with fail
        go_meet
        exact ⟨_, _, l, _, ⟨by omega, HPL.out⟩, hI8.setV u, hr8.far (by simp; omega) _, gb_set hc8 (.inr (by simp; omega)) _⟩
      · go_wp2_with fail
        go_meet
        exact ⟨_, _, [], _, ⟨by simp, PL_nil⟩, hI7.none, hr7.far (by simp; omega) _, gb_set hc7 (.inr (by simp; omega)) _⟩
      · go_wp2_with fail
        go_region_law (first
          | (refine step_append_lies _ (by rfl) (.tmp 48) (.tmp 51) 25 (by rfl) w2.heap.size 49 i0 (pv ⟨0, 0, 0, 0, 0, 0⟩) 6 48 Try.underlying25 hi0 hz0 hz1 hz2 rfl (by decide) (.slice A0 l.length k0) l.length (l.flatMap pl) (by rfl) (hI8.ps.alloc _) ⟨w8.heap.size, 0, none⟩ 1 1 (pl p) (by rfl) rfl (news_part' p (by exact Bk.new' rfl)) (pl_one' p) (by decide) (by simp only [maxLen]; omega) (by omega) (by simp; omega) _ rfl ?_
             intro g4 cap4 w4 hown4 hgrow4 hat4 hlt4
             have hB4 := (hI8.alloc (.cells (pl p).toArray 49)).bk.grown hgrow4 (fun e => hI8.ne e.symm)
             have e3 : w4.cell? ⟨w3.heap.size, 2, none⟩ = some (.slice A0 l.length k0) := hB4.cell 2
             have ef : w4.frozen? ⟨w3.heap.size, 2, none⟩ = false := hB4.frozen 2)
          | (go_simp
             go_at_call 42
             refine (part_any tp 1 _ (by exact hI7.tape) (by omega)).mono ?_
             rintro e w8 ⟨p, hp64, hpv, rfl, ht8, hg8⟩
             have hI8 := hI7.turn (gb_trans (gb_drew (gb_refl _ _)) hg8) ht8
             have d8 : w8.cell? ⟨w3.heap.size, 2, none⟩ = some (.slice A0 l.length k0) := hI8.bk.cell 2
             have hb8 := hI8.bk.lt
             have hr8 := hr7.kept (gb_trans (gb_drew (gb_refl _ _)) hg8) (by omega)
             have hc8 := gb_trans hc7 (gb_trans (gb_drew (gb_refl _ _)) hg8)))
        all_goals
          have hI9 := (hI8.alloc _).add (l := [p]) hgrow4 hown4 (ne_lies hI8.ne hat4 (by simp; omega))
          have hr9 := Bk.far (p := ⟨w3.heap.size, 2, none⟩) ((hr8.alloc _).grown hgrow4 (fun e => by have := (hI8.ps.lt _ e.symm).1; omega)) (by simp; omega) (.slice (some ⟨g4, 0, none⟩) (l.length + 1) cap4)
          have hc9 := gb_set (p := ⟨w3.heap.size, 2, none⟩) (gb_grown (gb_alloc hc8 _) hgrow4 (fun k hk => by have := (hI8.ps.lt k hk).1; omega)) (.inr (by simp; omega)) (.slice (some ⟨g4, 0, none⟩) (l.length + 1) cap4)
          go_wp2_with fail
          go_meet
          exact ⟨_, _, l ++ [p], _, ⟨by simp; omega, PL_snoc HPL.out hp64⟩, hI9, hr9, hc9⟩
      · go_wp2_with fail
        go_loopw [6] (fun j wr => ∃ (q : Nat) (ps : List Pt) (vP : Value), j = .int .i64 q ∧ q ≤ 6 ∧ (ps.length ≤ 6 + q ∧ Hid (PL ps)) ∧ PS wr w3.heap.size tp w2.heap.size c v ps vP ∧ Bk wr w.heap.size 27 ppz ∧ w.grownBy wr (some tp)) (fun j _ => 6 - (intOf j).toNat)
        case atStart => exact ⟨0, l, _, rfl, by omega, ⟨by omega, HPL⟩, hI7, hr7, hc7⟩
        case round =>
          clear c0 c1 c2 f0 f1 f2 hI7 hr7 hc7
          obtain ⟨q, ps, vP, rfl, hq6, ⟨hpl6, hPLp⟩, hI8, hr8, hc8⟩ := hrel
          have hb8 := hI8.bk.lt
          by_cases hq : q < 6
          · have hq' : (q : Int) < 6 := by omega
            have d8 : wr.cell? ⟨w3.heap.size, 2, none⟩ = some vP := hI8.bk.cell 2
            go_wp2_with (at_builtin; refine wpList_append_lies _ rfl _ _ 25 rfl w2.heap.size 49 i0 (pv ⟨0, 0, 0, 0, 0, 0⟩) 6 48 Try.underlying25 hi0 hz0 hz1 hz2 rfl (by decide) vP ps.length (ps.flatMap pl) rfl (hI8.ps.alloc _) ⟨wr.heap.size, 0, none⟩ 1 1 (pl ⟨1, 40, 0, 0, 0, 0⟩) rfl rfl (news_part' _ (by exact Bk.new' rfl)) (pl_one' _) (by decide) ?c3 ?c4 ?c5 _ rfl ?_)
            case c3 => simp only [maxLen]; omega
            case c4 => omega
            case c5 => first | omega | (simp; omega)
            intro g4 cap4 w4 hown4 hgrow4 hat4 hlt4
            have hB4 := (hI8.alloc (.cells (pl ⟨1, 40, 0, 0, 0, 0⟩).toArray 49)).bk.grown hgrow4 (fun e => hI8.ne e.symm)
            have e3 : w4.cell? ⟨w3.heap.size, 2, none⟩ = some vP := hB4.cell 2
            have ef : w4.frozen? ⟨w3.heap.size, 2, none⟩ = false := hB4.frozen 2
            have hI9 := (hI8.alloc _).add (l := [⟨1, 40, 0, 0, 0, 0⟩]) hgrow4 hown4 (ne_lies hI8.ne hat4 (by first | omega | (simp; omega)))
            have hr9 := Bk.far (p := ⟨w3.heap.size, 2, none⟩) ((hr8.alloc _).grown hgrow4 (fun e => by have := (hI8.ps.lt _ e.symm).1; omega)) (by simp; omega) (.slice (some ⟨g4, 0, none⟩) (ps.length + 1) cap4)
            have hc9 := gb_set (p := ⟨w3.heap.size, 2, none⟩) (gb_grown (gb_alloc hc8 _) hgrow4 (fun k hk => by have := (hI8.ps.lt k hk).1; omega)) (.inr (by simp; omega)) (.slice (some ⟨g4, 0, none⟩) (ps.length + 1) cap4)
            clear hgrow4 hown4 hI8 hr8 hc8 d8 hB4
            go_wp2_with fail
            go_roundw
            case rel => exact ⟨q + 1, ps ++ [⟨1, 40, 0, 0, 0, 0⟩], _, by go_num, by omega, ⟨by simp; omega, PL_snoc hPLp.out (by unfold P64 I64; simp)⟩, hI9, hr9, hc9⟩
            case measure => simp [intOf]; omega
          · go_wp2_with fail
            go_meet
            exact ⟨_, _, ps, _, ⟨by omega, hPLp.out⟩, hI8, hr8, hc8⟩
  case rest =>
    clear hI6 hr6 hc6 hl1 hl6 hps
    obtain ⟨c, v, l, vP, ⟨hl, hPL⟩, hI, hr, hc⟩ := hcut
    have HPL2 := Lib.hid hPL
    clear hPL
    obtain ⟨⟨c0, c1, c2⟩, f0, f1, f2⟩ := bk3 hI.bk
    obtain ⟨⟨e0, e1, e2⟩, m0, m1, m2⟩ := bk3 hr
    obtain ⟨A1, cA, rfl, hrP, haP⟩ := own_parts hI.ps
    have HG := Lib.hid (set3 wc w.heap.size (.int .i64 c) (.int .i64 v) (.slice A1 l.length cA))
    have HO := Lib.hid (hrP.grown HG.out (fun a ha => by have := (haP a ha).1; omega))
    have HT := Lib.hid (far3 hI.tape w.heap.size hlt (.int .i64 c) (.int .i64 v) (.slice A1 l.length cA))
    have HA := Lib.hid haP
    clear hrP haP
    go_wp2_with fail
    refine bodyPost_ret (v := .agg #[.int .i64 c, .int .i64 v, .slice A1 l.length cA]) (by simp [results, Try.results13, go_sem, c0, c1, c2, e0, e1, e2]) rfl ⟨c, v, l, A1, cA, ⟨hl, HPL2.out⟩, HO.out, fun a ha => by have := (HA.out a ha).1; omega, rfl, HT.out, gb_grown hc HG.out (fun k hk => by cases hk; omega)⟩
end Go.Proofs.Ytokddjohdodkmaa.Tm
