/- Walk: the statement ItemPapers. -/
import Derived.Test.YthjaomnmgggjbaaTPB
import Derived.Test.YthjaomnmgggjbaaTR
import Derived.WalkKit
import Derived.WalkSpells
import Derived.WalkLawsBesides
import Derived.Deep.QuietTactic
import Derived.BigQuiet
import Derived.Deep.Draws
import Derived.Deep.AppendLies
import Derived.Laws.OwnMore
import Derived.Laws.BytesArg
import Derived.Lib.Hide
import Derived.Deep.LoopGhost
import Derived.Deep.RegionHeld3
namespace Go.Proofs.Ythjaomnmgggjbaa.Tm
open Go.RowKit Go.Proofs.Ythjaomnmgggjbaa.Mw
set_option linter.unusedVariables false

theorem cell_drew' {w : World} {a : Addr} {v : Value} (h : w.cell? a = some v) : w.drew.cell? a = some v := h
/-- What the calls of the statement keep. -/
structure Gd (w0 : World) (g : Nat) (c v : Int) (A : Option Addr) (l : List Pt) (k : Nat) (w : World) : Prop where
  rd : RdP w A l
  bk : Bk w g 46 #[.int .i64 c, .int .i64 v, .slice A l.length k]
  bl : Below w0.heap.size w0 w
theorem Gd.next {w0 w w' : World} {g : Nat} {c v : Int} {A : Option Addr} {l : List Pt} {k : Nat} (h : Gd w0 g c v A l k w) (hb : Below w.heap.size w w') : Gd w0 g c v A l k w' := ⟨h.rd.old hb, h.bk.old hb, bl_trans h.bl hb⟩
theorem Gd.cells {w0 w : World} {g : Nat} {c v : Int} {A : Option Addr} {l : List Pt} {k : Nat} (h : Gd w0 g c v A l k w) : w.cell? ⟨g, 0, none⟩ = some (.int .i64 c) ∧ w.cell? ⟨g, 1, none⟩ = some (.int .i64 v) ∧ w.cell? ⟨g, 2, none⟩ = some (.slice A l.length k) := (bk3 h.bk).1
theorem choi_len (c v : Int) (l : List Pt) : (choi c v l).length ≤ l.length := by
  unfold choi
  split
  · exact chl_len l _
  · simp

set_option maxHeartbeats 2000000 in
set_option maxRecDepth 100000 in
theorem papers_any (t : List Int) (B : Option Addr) (cB : Nat) (w : World) (hl : t.length ≤ maxLen) (hlc : t.length ≤ cB) (hi : ∀ n ∈ t, I64 n) (hB : RdI w .i64 B t) :
    Calls Try.prog 9 #[.slice B t.length cB] w fun e w' => e = .returned (.bool true) ∧ Below w.heap.size w w' := by
  go_enter Try.func9, Try.ntmps9
  go_wp2_with fail
  refine (new_any t B cB _ hB hl hlc hi).mono ?_
  rintro e w1 ⟨rfl, ht1, hb1⟩
  clear hB hi
  unfold maxLen at hl
  go_wp2_with fail
  refine (loosep_any w.heap.size 2 _ ht1 (by omega) (by omega)).mono ?_
  rintro e w2 ⟨c, v, l, A, k, hl20, hr, _, rfl, ht2, hg2⟩
  have hc2 : Below w.heap.size w w2 := bl_gb hb1 hg2 (Nat.le_refl _)
  have G0 : Gd w w2.heap.size c v A l k (w2.alloc (.cells #[.int .i64 c, .int .i64 v, .slice A l.length k] 46)) := ⟨hr.alloc _, by exact Bk.new' rfl, bl_alloc hc2 _⟩
  obtain ⟨a0, a1, a2⟩ := G0.cells
  have hcl := choi_len c v l
  clear hb1 hg2 ht1 ht2 hr hc2
  go_wp2_with fail
  go_region_held3 (fun w' => w'.cell? ⟨w2.heap.size, 0, none⟩ = some (.int .i64 c) ∧ w'.cell? ⟨w2.heap.size, 1, none⟩ = some (.int .i64 v) ∧ w'.cell? ⟨w2.heap.size, 2, none⟩ = some (.slice A l.length k)) ((refine ⟨?_, ?_, ?_⟩ <;> (first | with_reducible assumption | (with_reducible refine cell_drew' ?_; with_reducible assumption)))) (first
    | (go_at_call 29; refine (vpaper_i _ _ A l k _ (by omega) (by exact G0.rd)).mono ?_; rintro e w3 ⟨rfl, hb3⟩; have G1 := G0.next (bl_trans (Below.drew (Below.refl _ _)) hb3); obtain ⟨b0, b1, b2⟩ := G1.cells)
    | (go_at_call 30; refine (rvpaper_i _ _ A l k _ (by omega) (by exact G1.rd)).mono ?_; rintro e w4 ⟨rfl, hb4⟩; have G2 := G1.next (by exact hb4); obtain ⟨c0, c1, c2⟩ := G2.cells)
    | (go_at_call 31; refine (ptotal_i _ _ A l k _ (by omega) (by exact G2.rd)).mono ?_; rintro e w5 ⟨rfl, hb5⟩; have G3 := G2.next (by exact hb5); obtain ⟨d0, d1, d2⟩ := G3.cells)
    | (go_at_call 32; refine (rptotal_i _ _ A l k _ (by omega) (by exact G3.rd)).mono ?_; rintro e w6 ⟨rfl, hb6⟩; have G4 := G3.next (by exact hb6); obtain ⟨e0, e1, e2⟩ := G4.cells)
    | (go_at_call 34; refine (choices_any c v A l k _ (by omega) (by exact G4.rd)).mono ?_; rintro e w7 ⟨L, cL, rfl, hrL, _, hb7⟩; have G5 := G4.next (by exact hb7); obtain ⟨f0, f1, f2⟩ := G5.cells)
    | (go_at_call 35; refine (rchoices_any c v A l k _ (by omega) (by exact G5.rd)).mono ?_; rintro e w8 ⟨M, cM, rfl, hrM, _, hb8⟩; have G6 := G5.next (by exact hb8); have hrL' := hrL.old hb8; obtain ⟨g0, g1, g2⟩ := G6.cells)
    | (go_at_call 24; refine (ints_any (choi c v l) (choi c v l) L cL M cM _ (by omega) (by omega) (by exact hrL') (by exact hrM)).mono ?_; rintro e w9 ⟨rfl, hb9⟩; have G7 := G6.next (by exact hb9); obtain ⟨h0, h1, h2⟩ := G7.cells)
    | (go_at_call 14; refine (awake_any _).mono ?_; rintro e w10 ⟨rfl, hb10⟩; have G8 := G7.next (by exact hb10); obtain ⟨i0, i1, i2⟩ := G8.cells))
  all_goals
    go_wp2_with fail
    go_ret
    exact ⟨rfl, G8.bl⟩
end Go.Proofs.Ythjaomnmgggjbaa.Tm
