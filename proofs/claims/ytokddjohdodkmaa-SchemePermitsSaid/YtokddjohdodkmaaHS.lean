/- Walk: the statement SchemePermits. -/
import Derived.Test.YtokddjohdodkmaaHN
import Derived.Test.YtokddjohdodkmaaHO
import Derived.Test.YtokddjohdodkmaaHD
import Derived.WalkKit
import Derived.WalkSpells
import Derived.WalkLawsBesides
import Derived.Deep.QuietTactic
import Derived.BigQuiet
import Derived.Deep.Draws
import Derived.Deep.AppendLies
import Derived.Laws.OwnMore
import Derived.Laws.BytesArg
import Derived.Lib.Hide
import Derived.Deep.LoopGhost
import Derived.Deep.CutBlock
namespace Go.Proofs.Ytokddjohdodkmaa.Tm
open Go.RowKit Go.Proofs.Ytokddjohdodkmaa.Mw
open Go.Proofs.Ytokddjohdodkmaa.Mm (RC)
set_option linter.unusedVariables false
set_option linter.unusedSimpArgs false

set_option maxHeartbeats 4000000 in
set_option maxRecDepth 200000 in
theorem permits_st (l : List Int) (B : Option Addr) (cB : Nat) (part mark : Int) (w : World) (hl : l.length ≤ maxLen) (hlc : l.length ≤ cB) (hi : ∀ n ∈ l, I64 n) (hB : RdI w .i64 B l) (h1 : I64 part) (h2 : I64 mark) :
    Calls Try.prog 8 #[.slice B l.length cB, .int .i64 part, .int .i64 mark] w fun e w' => e = .returned (.bool true) ∧ Below w.heap.size w w' := by
  go_enter Try.func8, Try.ntmps8
  go_wp2_with fail
  refine (new_any l B cB _ hB hl hlc hi).mono ?_
  rintro e w1 ⟨rfl, ht1, hb1⟩
  have hlt1 := ht1.lt
  clear hB hi
  unfold maxLen at hl
  go_wp2_with fail
  refine (loosep_any w.heap.size 12 _ ht1 (by omega) (by omega)).mono ?_
  rintro e w2 ⟨c, v, ps, A, k, ⟨hps, hPL⟩, hr, hA, rfl, ht2, hg2⟩
  have hc2 : Below w.heap.size w w2 := bl_gb hb1 hg2 (Nat.le_refl _)
  have hlt2 := ht2.lt
  obtain ⟨p, hp⟩ : ∃ p : Pa, p = ⟨c, v, A, k, ps⟩ := ⟨_, rfl⟩
  have hpl : p.l.length ≤ 20 := by rw [hp]; exact hps
  have hPLp : PL p.l := by rw [hp]; exact hPL
  have hpa : PaOk (w2.alloc (.cells (pac p) 27)) p := by rw [hp]; exact ⟨hr.alloc _, by show ps.length ≤ 1000; omega⟩
  have haw : Away w.heap.size p.A := by rw [hp]; exact fun a ha => by have := hA a ha; omega
  have hv : (.agg #[.int .i64 c, .int .i64 v, .slice A ps.length k] : Value) = pav p := by rw [hp]
  rw [hv]
  have b1 : Bk (w2.alloc (.cells (pac p) 27)) w2.heap.size 27 (pac p) := Bk.new' rfl
  clear hp hv hr hA hPL hps hb1 hg2 ht1
  go_wp2_with fail
  refine (tscheme_any w.heap.size p 12 _ (ht2.alloc _) hpa haw hpl hPLp (by omega)).mono ?_
  rintro e w3 ⟨s, hs, hnew, -, rfl, ht3, hg3⟩
  have sw : ScAw w.heap.size s := ⟨fun a ha => by have := hnew.1 a ha; simp at this; omega, fun a ha => by have := hnew.2.1 a ha; simp at this; omega, fun i hi a ha => by have := hnew.2.2 i hi a ha; simp at this; omega⟩
  have hz3 := hg3.size
  have P3 : PS2 w (w3.alloc (.cells (scc s) 31)) w.heap.size w2.heap.size w3.heap.size p s :=
    ⟨(hpa.grown hg3 haw).alloc _, hs.alloc _, (b1.kept hg3 (by omega)).alloc _, Bk.new' rfl, bl_alloc (bl_gb (bl_alloc hc2 _) hg3 (Nat.le_refl _)) _, ht3.alloc _, haw, sw, by omega, by simp at hz3; omega, Nat.le_refl _⟩
  clear hpa b1 hs hnew ht3 hg3 hc2 ht2 sw haw hz3
  go_upto_region 4 with fail
  generalize w3.alloc (.cells (scc s) 31) = V0 at P3 ⊢
  obtain ⟨k0, k1, k2⟩ := bk3' P3.b1
  obtain ⟨⟨m0, m1⟩, -⟩ := bk2 P3.b2
  have l1 := P3.b1.lt
  have l2 := P3.b2.lt
  go_wp2_with fail
  refine (marks_any w.heap.size p 3 _ P3.ta P3.pa P3.aw hpl hPLp (by omega)).mono ?_
  rintro e y0 ⟨ms, M, cM, hm21, hrm, hMn, -, rfl, ht4, hg4⟩
  have P4 := P3.turn hg4 ht4
  clear P3 hg4 ht4 k0 k1 k2 m0 m1 l1 l2 hMn
  go_wp2_with fail
  refine (cut_any part 7 (by omega) (by omega) h1 _).mono ?_
  rintro e x1 ⟨rfl, rfl⟩
  go_wp2_with fail
  refine (cut_any mark 16 (by omega) (by omega) h2 _).mono ?_
  rintro e x2 ⟨rfl, rfl⟩
  have hx : 0 ≤ mark % 16 ∧ mark % 16 < 16 := by omega
  generalize part % 7 = kk
  generalize mark % 16 = aa at hx ⊢
  clear h1 h2
  go_upto_region 6 with fail
  have R1 : RC 30 #[pav p, scv s, .int .i64 part, .int .i64 mark] y0 (.bool (permS p s part mark)) := RC.of fun V hV => permitted_any p s part mark V (P4.pa.old hV) (P4.sc.old hV)
  have R2 : RC 31 #[pav p, scv s, .int .i64 part, .int .i64 mark] y0 (.bool (permS p s part mark)) := RC.of fun V hV => rpermitted_any p s part mark V (P4.pa.old hV) (P4.sc.old hV)
  have R3 : RC 30 #[pav p, scv s, .int .i64 kk, .int .i64 (aa - 3)] y0 (.bool (permS p s kk (aa - 3))) := RC.of fun V hV => permitted_any p s kk (aa - 3) V (P4.pa.old hV) (P4.sc.old hV)
  have R4 : RC 31 #[pav p, scv s, .int .i64 kk, .int .i64 (aa - 3)] y0 (.bool (permS p s kk (aa - 3))) := RC.of fun V hV => rpermitted_any p s kk (aa - 3) V (P4.pa.old hV) (P4.sc.old hV)
  have R5 : RC 32 #[pav p, scv s, .slice M ms.length cM] y0 (.bool (mrk p s ms)) := RC.of fun V hV => marked_any p s ms M cM V (P4.pa.old hV) (P4.sc.old hV) (hrm.old hV) (by omega)
  have R6 : RC 33 #[pav p, scv s, .slice M ms.length cM] y0 (.bool (mrk p s ms)) := RC.of fun V hV => rmarked_any p s ms M cM V (P4.pa.old hV) (P4.sc.old hV) (hrm.old hV) (by omega)
  have R7 : RC 19 #[] y0 (.bool true) := RC.of fun V _ => awake_any V
  generalize permS p s part mark = x1 at R1 R2
  generalize permS p s kk (aa - 3) = x2 at R3 R4
  generalize mrk p s ms = x3 at R5 R6
  obtain ⟨k0, k1, k2⟩ := bk3' P4.b1
  obtain ⟨⟨m0, m1⟩, -⟩ := bk2 P4.b2
  have l1 := P4.b1.lt
  have l2 := P4.b2.lt
  have hbe := P4.be
  clear P4 hrm
  refine Mm.region_ext (by kernel_rfl) (by kernel_rfl) ?_; (repeat (first | go_big_quiet_step ((exact Mm.RC.call (by with_reducible assumption) _)) | quiet_step ((exact Mm.RC.call (by with_reducible assumption) _)))); refine wpQuiet_nil ?_
  intro w6 hb6
  go_wp2_with fail
  go_ret
  exact ⟨rfl, bl_trans hbe hb6⟩
end Go.Proofs.Ytokddjohdodkmaa.Tm
