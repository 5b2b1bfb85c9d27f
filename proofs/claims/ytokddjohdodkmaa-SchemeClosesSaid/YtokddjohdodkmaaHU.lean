/- Walk: the statement SchemeCloses. -/
import Derived.Test.YtokddjohdodkmaaHN
import Derived.Test.YtokddjohdodkmaaHO
import Derived.Test.YtokddjohdodkmaaHG
import Derived.WalkKit
import Derived.WalkSpells
import Derived.WalkLawsBesides
import Derived.Deep.QuietTactic
import Derived.BigQuiet
import Derived.Deep.Draws
import Derived.Deep.AppendLies
import Derived.Laws.OwnMore
import Derived.Laws.BytesArg
import Derived.Lib.Hide
import Derived.Deep.LoopGhost
import Derived.Deep.CutBlock
namespace Go.Proofs.Ytokddjohdodkmaa.Tm
open Go.RowKit Go.Proofs.Ytokddjohdodkmaa.Mw
open Go.Proofs.Ytokddjohdodkmaa.Mm (RC)
set_option linter.unusedVariables false
set_option linter.unusedSimpArgs false

set_option maxHeartbeats 4000000 in
set_option maxRecDepth 200000 in
theorem closes_st (l : List Int) (B : Option Addr) (cB : Nat) (mk : List Int) (C : Option Addr) (cC : Nat) (w : World) (hl : l.length ≤ maxLen) (hlc : l.length ≤ cB) (hi : ∀ n ∈ l, I64 n) (hB : RdI w .i64 B l) (hC : RdI w .i64 C mk) (hCl : mk.length ≤ maxLen) :
    Calls Try.prog 3 #[.slice B l.length cB, .slice C mk.length cC] w fun e w' => e = .returned (.bool true) ∧ Below w.heap.size w w' := by
  have HC := Lib.hid hC
  clear hC
  unfold maxLen at hCl
  go_enter Try.func3, Try.ntmps3
  go_wp2_with fail
  refine (new_any l B cB _ hB hl hlc hi).mono ?_
  rintro e w1 ⟨rfl, ht1, hb1⟩
  have hlt1 := ht1.lt
  clear hB hi
  unfold maxLen at hl
  go_wp2_with fail
  refine (loosep_any w.heap.size 12 _ ht1 (by omega) (by omega)).mono ?_
  rintro e w2 ⟨c, v, ps, A, k, ⟨hps, hPL⟩, hr, hA, rfl, ht2, hg2⟩
  have hc2 : Below w.heap.size w w2 := bl_gb hb1 hg2 (Nat.le_refl _)
  have hlt2 := ht2.lt
  obtain ⟨p, hp⟩ : ∃ p : Pa, p = ⟨c, v, A, k, ps⟩ := ⟨_, rfl⟩
  have hpl : p.l.length ≤ 20 := by rw [hp]; exact hps
  have hPLp : PL p.l := by rw [hp]; exact hPL
  have hpa : PaOk (w2.alloc (.cells (pac p) 27)) p := by rw [hp]; exact ⟨hr.alloc _, by show ps.length ≤ 1000; omega⟩
  have haw : Away w.heap.size p.A := by rw [hp]; exact fun a ha => by have := hA a ha; omega
  have hv : (.agg #[.int .i64 c, .int .i64 v, .slice A ps.length k] : Value) = pav p := by rw [hp]
  rw [hv]
  have b1 : Bk (w2.alloc (.cells (pac p) 27)) w2.heap.size 27 (pac p) := Bk.new' rfl
  clear hp hv hr hA hPL hps hb1 hg2 ht1
  go_wp2_with fail
  refine (tscheme_any w.heap.size p 12 _ (ht2.alloc _) hpa haw hpl hPLp (by omega)).mono ?_
  rintro e w3 ⟨s, hs, hnew, -, rfl, ht3, hg3⟩
  have sw : ScAw w.heap.size s := ⟨fun a ha => by have := hnew.1 a ha; simp at this; omega, fun a ha => by have := hnew.2.1 a ha; simp at this; omega, fun i hi a ha => by have := hnew.2.2 i hi a ha; simp at this; omega⟩
  have hz3 := hg3.size
  have P3 : PS2 w (w3.alloc (.cells (scc s) 31)) w.heap.size w2.heap.size w3.heap.size p s :=
    ⟨(hpa.grown hg3 haw).alloc _, hs.alloc _, (b1.kept hg3 (by omega)).alloc _, Bk.new' rfl, bl_alloc (bl_gb (bl_alloc hc2 _) hg3 (Nat.le_refl _)) _, ht3.alloc _, haw, sw, by omega, by simp at hz3; omega, Nat.le_refl _⟩
  clear hpa b1 hs hnew ht3 hg3 hc2 ht2 sw haw hz3
  go_upto_region 4 with fail
  generalize w3.alloc (.cells (scc s) 31) = V0 at P3 ⊢
  obtain ⟨k0, k1, k2⟩ := bk3' P3.b1
  obtain ⟨⟨m0, m1⟩, -⟩ := bk2 P3.b2
  have l1 := P3.b1.lt
  have l2 := P3.b2.lt
  go_wp2_with fail
  refine (given_any w.heap.size p 5 _ P3.ta P3.pa P3.aw hpl hPLp (by omega)).mono ?_
  rintro e y0 ⟨ms, M, cM, hm21, hrm, hMn, -, rfl, ht4, hg4⟩
  have P4 := P3.turn hg4 ht4
  clear P3 hg4 ht4 k0 k1 k2 m0 m1 l1 l2 hMn
  have hrC := HC.out.old P4.be
  obtain ⟨k0, k1, k2⟩ := bk3' P4.b1
  obtain ⟨⟨m0, m1⟩, -⟩ := bk2 P4.b2
  have l1 := P4.b1.lt
  have l2 := P4.b2.lt
  go_wp2_with fail
  refine (closed_any p s ms M cM _ P4.pa P4.sc hrm (by omega)).mono ?_
  rintro e y1 ⟨A1, c1, rfl, hr1', -, -, hb1⟩
  have Q1 := P4.old hb1
  have hr1 := hr1'
  have hrm' := hrm.old hb1
  have hrC' := hrC.old hb1
  clear P4 hrm hrC hb1 hr1' k0 k1 k2 m0 m1 l1 l2
  have hrm := hrm'
  have hrC := hrC'
  clear hrm' hrC'
  obtain ⟨k0, k1, k2⟩ := bk3' Q1.b1
  obtain ⟨⟨m0, m1⟩, -⟩ := bk2 Q1.b2
  have l1 := Q1.b1.lt
  have l2 := Q1.b2.lt
  go_wp2_with fail
  refine (rclosed_any p s ms M cM _ Q1.pa Q1.sc hrm (by omega)).mono ?_
  rintro e y2 ⟨A2, c2, rfl, hr2', -, -, hb2⟩
  have Q2 := Q1.old hb2
  have hr2 := hr2'
  have hrm' := hrm.old hb2
  have hrC' := hrC.old hb2
  have hr1x := hr1.old hb2
  clear Q1 hrm hrC hb2 hr2' k0 k1 k2 m0 m1 l1 l2 hr1
  have hr1 := hr1x
  clear hr1x
  have hrm := hrm'
  have hrC := hrC'
  clear hrm' hrC'
  obtain ⟨k0, k1, k2⟩ := bk3' Q2.b1
  obtain ⟨⟨m0, m1⟩, -⟩ := bk2 Q2.b2
  have l1 := Q2.b1.lt
  have l2 := Q2.b2.lt
  go_wp2_with fail
  refine (closed_any p s mk C cC _ Q2.pa Q2.sc hrC (by omega)).mono ?_
  rintro e y3 ⟨A3, c3, rfl, hr3', -, -, hb3⟩
  have Q3 := Q2.old hb3
  have hr3 := hr3'
  have hrm' := hrm.old hb3
  have hrC' := hrC.old hb3
  have hr1x := hr1.old hb3
  have hr2x := hr2.old hb3
  clear Q2 hrm hrC hb3 hr3' k0 k1 k2 m0 m1 l1 l2 hr1 hr2
  have hr1 := hr1x
  clear hr1x
  have hr2 := hr2x
  clear hr2x
  have hrm := hrm'
  have hrC := hrC'
  clear hrm' hrC'
  obtain ⟨k0, k1, k2⟩ := bk3' Q3.b1
  obtain ⟨⟨m0, m1⟩, -⟩ := bk2 Q3.b2
  have l1 := Q3.b1.lt
  have l2 := Q3.b2.lt
  go_wp2_with fail
  refine (rclosed_any p s mk C cC _ Q3.pa Q3.sc hrC (by omega)).mono ?_
  rintro e y4 ⟨A4, c4, rfl, hr4', -, -, hb4⟩
  have Q4 := Q3.old hb4
  have hr4 := hr4'
  have hrm' := hrm.old hb4
  have hrC' := hrC.old hb4
  have hr1x := hr1.old hb4
  have hr2x := hr2.old hb4
  have hr3x := hr3.old hb4
  clear Q3 hrm hrC hb4 hr4' k0 k1 k2 m0 m1 l1 l2 hr1 hr2 hr3
  have hr1 := hr1x
  clear hr1x
  have hr2 := hr2x
  clear hr2x
  have hr3 := hr3x
  clear hr3x
  have hrm := hrm'
  have hrC := hrC'
  clear hrm' hrC'
  have n1 := clo_len p s ms (by omega)
  have n2 := clo_len p s mk (by omega)
  generalize clo p s ms = X at hr1 hr2 n1 ⊢
  generalize clo p s mk = Y at hr3 hr4 n2 ⊢
  go_wp2_with fail
  refine (ints_any X.1 X.1 A1 c1 A2 c2 _ (by omega) (by omega) hr1 hr2).mono ?_
  rintro e z1 ⟨rfl, hz1⟩
  have hr3z := hr3.old hz1
  have hr4z := hr4.old hz1
  go_wp2_with fail
  refine (ints_any Y.1 Y.1 A3 c3 A4 c4 _ (by omega) (by omega) hr3z hr4z).mono ?_
  rintro e z2 ⟨rfl, hz2⟩
  go_wp2_with fail
  refine (awake_any _).mono ?_
  rintro e z3 ⟨rfl, hz3⟩
  go_wp2_with fail
  go_ret
  exact ⟨rfl, bl_trans (bl_trans (bl_trans Q4.be hz1) hz2) hz3⟩
end Go.Proofs.Ytokddjohdodkmaa.Tm
