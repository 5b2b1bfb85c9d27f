/- Walks: Step of the reference. -/
import Derived.Test.YtpgkiiaoddhdcaaMH
import Derived.Test.YtpgkiiaoddhdcaaAR
import Derived.WalkKit
import Derived.WalkSpells
import Derived.WalkLawsBesides
import Derived.Deep.QuietTactic
import Derived.BigQuiet
import Derived.Deep.Draws
import Derived.Deep.AppendLies
import Derived.Laws.OwnMore
import Derived.Laws.BytesArg
import Derived.Lib.Hide
import Derived.Deep.LoopGhost
import Derived.OwnWalk
import Derived.Deep.RegionHeld3
namespace Go.Proofs.Ytpgkiiaoddhdcaa.Mo
open Go.RowKit Go.Proofs.Ytpgkiiaoddhdcaa.Mw Go.Proofs.Ytpgkiiaoddhdcaa.Dc
set_option linter.unusedVariables false

set_option maxHeartbeats 1000000 in
theorem rstep_ok (r : Rl) (l : List Bool) (A : Option Addr) (c : Nat) (g : Bool) (hv : vld r l false = true) (w : World) (hr : RdB w A l) :
    Calls Try.prog 24 #[rv r, wv A l c false, .bool g] w (StOk r l g w) := by
  obtain ⟨i0, hi, hz0, hz1, hz2⟩ := info_parts infoBool
  obtain ⟨hck, hlw⟩ := vld_chk hv
  have hcb := chk_bd hck
  have hl : l.length ≤ 20 := by omega
  have Hv := Lib.hid hv
  clear hv hck
  go_enter Try.func24, Try.ntmps24
  go_wp2_with fail
  refine (rvalid_yes r l A c false Hv.out _ (by omega) (((hr.alloc _).alloc _).alloc _)).mono ?_
  rintro e w1 ⟨rfl, hb1⟩
  have hW1 : Bk w1 (w.heap.size + 2) 27 #[.slice none 0 0, .bool false] := Bk.old (by (repeat (first | ((with_reducible refine Mw.Bk.new' ?_); (first | rfl | (simp; done) | (simp; omega))) | with_reducible refine Mw.Bk.alloc ?_ _ | with_reducible refine Mw.Bk.drewN ?_ _ | with_reducible refine Mw.Bk.drew ?_ | with_reducible assumption))) hb1
  have hX1 : Bk w1 (w.heap.size + 1) 27 (wc A l c false) := Bk.old (by (repeat (first | ((with_reducible refine Mw.Bk.new' ?_); (first | rfl | (simp; done) | (simp; omega))) | with_reducible refine Mw.Bk.alloc ?_ _ | with_reducible refine Mw.Bk.drewN ?_ _ | with_reducible refine Mw.Bk.drew ?_ | with_reducible assumption))) hb1
  have hR1 : Bk w1 w.heap.size 24 (rc r) := Bk.old (by (repeat (first | ((with_reducible refine Mw.Bk.new' ?_); (first | rfl | (simp; done) | (simp; omega))) | with_reducible refine Mw.Bk.alloc ?_ _ | with_reducible refine Mw.Bk.drewN ?_ _ | with_reducible refine Mw.Bk.drew ?_ | with_reducible assumption))) hb1
  have hc1 : Below w.heap.size w w1 := bl_trans (by (repeat (first | with_reducible exact Below.refl _ _ | with_reducible refine bl_drewN ?_ _ | with_reducible refine Below.drew ?_ | with_reducible refine bl_alloc ?_ _ | with_reducible refine Below.alloc ?_ (by first | omega | (simp; done) | (simp; omega)) _ | with_reducible refine Below.setCell ?_ (by first | omega | (simp; done) | (simp; omega)) _ | with_reducible assumption))) hb1
  clear hb1
  obtain ⟨⟨j0, j1⟩, -⟩ := bk2 hX1
  have hr1 := hr.old hc1
  have hz1' := hW1.lt
  have hap : ∃ v2 w2, (Builtin.append_ #[25, 25] 25 #[.slice none 0 0, .slice A l.length c]).run Try.prog w1 = .ok v2 w2 ∧ w2.ownsRow w1.heap.size 4 1 v2 l.length (l.map Value.bool) ∧ w1.grownBy w2 none := by
    rcases A with _ | a
    · obtain rfl := hr1.none_nil
      refine ⟨.slice none 0 0, w1, ?_, World.ownsRow_nil _ _ _ _, gb_refl _ _⟩
      simp [Builtin.append_, run_underlying Try.underlying25, sizeOf, typeInfo, hi, Builtin.lenOf, Builtin.firstCells]
    · obtain ⟨v', w', h1, h2, h3, -, -⟩ := run_append_own_at (P := Try.prog) w1 w1.heap.size 25 25 4 i0 (.bool false) 1 1 Try.underlying25 hi hz0 hz1 hz2 rfl (by decide) (.slice none 0 0) 0 [] (World.ownsRow_nil _ _ _ _) a l.length c (l.map Value.bool) (by simp) hr1.news (ones_bool l) (by simp only [maxLen]; omega) (by omega) (Nat.le_refl _)
      exact ⟨v', w', h1, by simpa using h2, h3⟩
  obtain ⟨v2, w2, hrun, hown2, hg2⟩ := hap
  have hb2 : Below w1.heap.size w1 w2 := ⟨hg2.os, hg2.tape, hg2.output, hg2.size, fun i hi => hg2.block i hi (by simp)⟩
  have hW2 := hW1.old hb2
  have hR2 := hR1.old hb2
  have hc2 := bl_trans hc1 hb2
  have hs2 := hb2.size
  clear hb2 hg2 hW1 hX1 hR1 hr1 hr
  go_wp2_with (first | (at_builtin; refine wpList_append_run rfl (.const (.slice none 0 0)) (.tmp 18) 25 rfl (.slice none 0 0) (.slice A l.length c) rfl rfl v2 w2 (by exact hrun) ?_; clear hrun hc1 j0 j1) | (at_builtin; refine wpList_append_own _ rfl (.tmp 19) (.tmp 21) 25 rfl w1.heap.size 4 i0 (.bool false) 1 1 Try.underlying25 hi hz0 hz1 hz2 rfl (by decide) _ _ _ rfl (hown2.alloc _) ⟨w2.heap.size, 0, none⟩ 1 1 [_] rfl rfl (cell_one_new _ _ _) ?c2 ?c3 ?c4 ?c5 ?_))
  case c2 => simp [Value.oneCell']
  case c3 => simp only [maxLen]; omega
  case c4 => omega
  case c5 => simp; omega
  intro v3 w3 hown' hgrow _
  obtain ⟨L, hL⟩ : ∃ L, L = l ++ [g] := ⟨_, rfl⟩
  have hLl : L.length = l.length + 1 := by rw [hL]; simp
  have hown3 : w3.ownsRow w1.heap.size 4 1 v3 L.length (L.map Value.bool) := by
    rw [hLl, hL, List.map_append]; exact hown'
  have hc3 : Below w.heap.size w w3 := Below.grown (by (repeat (first | with_reducible exact Below.refl _ _ | with_reducible refine bl_drewN ?_ _ | with_reducible refine Below.drew ?_ | with_reducible refine bl_alloc ?_ _ | with_reducible refine Below.alloc ?_ (by first | omega | (simp; done) | (simp; omega)) _ | with_reducible refine Below.setCell ?_ (by first | omega | (simp; done) | (simp; omega)) _ | with_reducible assumption))) hgrow (by have := hc2.size; simp; omega) (fun j hj => by have := (hown2.lt j hj).1; omega)
  have hW3 := (hW2.alloc (.cells #[.bool g] 4)).grown hgrow (fun e => by have := (hown2.lt _ e.symm).1; omega)
  have hR3 := (hR2.alloc (.cells #[.bool g] 4)).grown hgrow (fun e => by have := (hown2.lt _ e.symm).1; omega)
  clear hown' hgrow hown2 hc2 hW2 hR2
  obtain ⟨A3, c3, rfl, hlc3, hcm3, hr3, ha3⟩ := own_bools hown3
  have Ha3 := Lib.hid ha3
  have HL := Lib.hid hL
  clear hL ha3 hown3
  unfold maxLen at hcm3
  obtain ⟨⟨k0, k1⟩, f0, f1⟩ := bk2 hW3
  obtain ⟨⟨r0, r1, r2, r3⟩, -⟩ := bk4 hR3
  have hz4 := hW3.lt
  by_cases hlt : (l.length : Int) < r.w
  · have Hnx : Hid (nx r.w.toNat l g = L) := by unfold Hid nx; rw [show l.length + 1 - r.w.toNat = 0 by omega, HL.out]; rfl
    have hLn : (L.length : Int) ≤ r.w := by omega
    clear hLl
    go_wp2_with fail
    go_region_held3 (fun w' => w'.cell? ⟨w.heap.size, 3, none⟩ = some (.int .i64 r.f)) ((repeat (first | with_reducible assumption | with_reducible refine Mw.cell_alloc ?_ _ | with_reducible refine Mw.cell_drew ?_ | with_reducible refine Mw.cell_far ?_ (by first | assumption | omega | (simp; omega)) _))) ((go_at_call 31; refine (fails_any L A3 c3 _ (by omega) (by exact hr3.drew)).mono ?_; rintro e w0 ⟨rfl, rfl⟩))
    have Hf : Hid (decide (r.f ≤ (cnt L : Int)) = fl r L) := rfl
    go_wp2_with fail
    refine bodyPost_ret (v := .tuple #[wv A3 L c3 (decide (r.f ≤ (cnt L : Int))), .int .i64 0]) (by simp [results, Try.results24, go_sem, k0, k1]) rfl ⟨A3, c3, by rw [Hnx.out, Hf.out], ?_, ?_, ?_⟩
    · rw [Hnx.out]
      have hA : Away (w.heap.size + 2) A3 := fun a e => by have := (Ha3.out a e).1; omega
      exact (hr3.drew.far hA _).far hA _
    · intro a e
      have := Ha3.out a e
      simp
      omega
    · (repeat (first | with_reducible exact Below.refl _ _ | with_reducible refine bl_drewN ?_ _ | with_reducible refine Below.drew ?_ | with_reducible refine bl_alloc ?_ _ | with_reducible refine Below.alloc ?_ (by first | omega | (simp; done) | (simp; omega)) _ | with_reducible refine Below.setCell ?_ (by first | omega | (simp; done) | (simp; omega)) _ | with_reducible assumption))
  · have Hnx : Hid (nx r.w.toNat l g = L.drop 1) := by unfold Hid nx; rw [show l.length + 1 - r.w.toNat = 1 by omega, HL.out]
    have hLn : r.w < (L.length : Int) := by omega
    have hLm : (L.length : Int) - 1 ≤ r.w := by omega
    obtain ⟨b3, o3, rfl, hb3, -⟩ := hr3 0 (by omega)
    have hr5 := hr3.tail
    have hd1 : (L.drop 1).length = l.length := by simp; omega
    have hL1 : 1 ≤ L.length := by omega
    have hc1' : ¬ c3 = 1 := by omega
    have hf := fails_any (L.drop 1) (some ⟨b3, o3 + 1, none⟩) (c3 - 1) w3.drew (by omega) hr5.drew
    rw [hd1] at hf
    have HF := Lib.hid hf
    clear hf
    go_wp2_with fail
    go_region_held3 (fun w' => w'.cell? ⟨w.heap.size, 3, none⟩ = some (.int .i64 r.f)) ((repeat (first | with_reducible assumption | with_reducible refine Mw.cell_alloc ?_ _ | with_reducible refine Mw.cell_drew ?_ | with_reducible refine Mw.cell_far ?_ (by first | assumption | omega | (simp; omega)) _))) ((go_at_call 31; refine HF.out.mono ?_; rintro e w0 ⟨rfl, rfl⟩))
    have Hd1 := Lib.hid hd1
    clear hd1
    have Hf : Hid (decide (r.f ≤ (cnt (L.drop 1) : Int)) = fl r (L.drop 1)) := rfl
    go_wp2_with fail
    refine bodyPost_ret (v := .tuple #[.agg #[.slice (some ⟨b3, o3 + 1, none⟩) l.length (c3 - 1), .bool (decide (r.f ≤ (cnt (L.drop 1) : Int)))], .int .i64 0]) (by simp [results, Try.results24, go_sem, k0, k1]) rfl ⟨some ⟨b3, o3 + 1, none⟩, c3 - 1, by rw [Hnx.out, Hf.out]; unfold wv; rw [Hd1.out], ?_, ?_, ?_⟩
    · rw [Hnx.out]
      have hA : Away (w.heap.size + 2) (some ⟨b3, o3 + 1, none⟩) := Away.some (by have := (Ha3.out ⟨b3, o3, none⟩ rfl).1; simp only at this ⊢; omega)
      exact (hr5.drew.far hA _).far hA _
    · intro a e
      cases e
      have := Ha3.out ⟨b3, o3, none⟩ rfl
      simp at this ⊢
      omega
    · (repeat (first | with_reducible exact Below.refl _ _ | with_reducible refine bl_drewN ?_ _ | with_reducible refine Below.drew ?_ | with_reducible refine bl_alloc ?_ _ | with_reducible refine Below.alloc ?_ (by first | omega | (simp; done) | (simp; omega)) _ | with_reducible refine Below.setCell ?_ (by first | omega | (simp; done) | (simp; omega)) _ | with_reducible assumption))
end Go.Proofs.Ytpgkiiaoddhdcaa.Mo
