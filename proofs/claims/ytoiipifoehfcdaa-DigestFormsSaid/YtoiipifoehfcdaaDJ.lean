/- Walks: Join of the reference. -/
import Derived.Test.YtoiipifoehfcdaaDY
import Derived.WalkKit
import Derived.WalkSpells
import Derived.WalkLawsBesides
import Derived.Deep.QuietTactic
import Derived.BigQuiet
import Derived.Deep.Draws
import Derived.Deep.AppendLies
import Derived.Laws.OwnMore
import Derived.Laws.BytesArg
import Derived.Lib.Hide
import Derived.Deep.LoopGhost
import Derived.OwnWalk
import Derived.Deep.RegionLaw
namespace Go.Proofs.Ytoiipifoehfcdaa.Dg
open Go.RowKit
set_option linter.unusedVariables false

theorem one4 (a b c d : Int) : ∀ u ∈ [Value.int .u32 a, .int .u32 b, .int .u32 c, .int .u32 d], u.oneCell' = true := by simp [Value.oneCell']
theorem news4 {w : World} {g : Nat} {T : TypeId} {a b c d : Int} (h : Mw.Bk w g T #[.int .u32 a, .int .u32 b, .int .u32 c, .int .u32 d]) : ∀ j u, [Value.int .u32 a, .int .u32 b, .int .u32 c, .int .u32 d][j]? = some u → w.cell? ((⟨g, 0, none⟩ : Addr).add j) = some u := World.news_of_block h

set_option maxHeartbeats 1000000 in
theorem rjoin_any (a b : St) (w : World) :
    Calls Try.prog 21 #[dv a, dv b] w fun e w' => e = .returned (dv (joinw a b)) ∧ Below w.heap.size w w' := by
  obtain ⟨i0, hi, hz0, hz1, hz2⟩ := info_parts info32
  go_enter Try.func21, Try.ntmps21
  go_wp2_with fail
  go_region_law (first
    | (refine step_append_lies _ (by rfl) (.const (.slice none 0 0)) (.tmp 5) 34 (by rfl) (w.heap.size + 3) 22 i0 (.int .u32 0) 1 4 Try.underlying34 hi hz0 hz1 hz2 rfl (by decide) (.slice none 0 0) 0 [] (by rfl) (World.ownsRow_nil _ _ _ _) ⟨w.heap.size, 0, none⟩ 4 4 [.int .u32 a.1, .int .u32 a.2.1, .int .u32 a.2.2.1, .int .u32 a.2.2.2] (by rfl) rfl (by refine news4 (T := 24) ?_; (repeat (first | (refine Mw.Bk.new' ?_; (first | rfl | (simp; done) | (simp; omega))) | refine Mw.Bk.alloc ?_ _ | refine Mw.Bk.drewN ?_ _ | refine Mw.Bk.drew ?_ | with_reducible assumption))) (one4 _ _ _ _) (by decide) (by simp only [maxLen]; omega) (by omega) (by simp) _ rfl ?_
       intro g1 cap1 w1 hown1 hgrow1 hat1 hlt1
       have hA1 := Mw.Bk.grown (t := 24) (g := w.heap.size + 1) (cs := #[.int .u32 b.1, .int .u32 b.2.1, .int .u32 b.2.2.1, .int .u32 b.2.2.2]) (by (repeat (first | (refine Mw.Bk.new' ?_; (first | rfl | (simp; done) | (simp; omega))) | refine Mw.Bk.alloc ?_ _ | refine Mw.Bk.drewN ?_ _ | refine Mw.Bk.drew ?_ | with_reducible assumption))) hgrow1 (by simp [Value.ownBlock])
       have hC1 := Mw.Bk.grown (t := 24) (g := w.heap.size + 2) (cs := #[.int .u32 0, .int .u32 0, .int .u32 0, .int .u32 0]) (by (repeat (first | (refine Mw.Bk.new' ?_; (first | rfl | (simp; done) | (simp; omega))) | refine Mw.Bk.alloc ?_ _ | refine Mw.Bk.drewN ?_ _ | refine Mw.Bk.drew ?_ | with_reducible assumption))) hgrow1 (by simp [Value.ownBlock])
       have hb1 : Below w.heap.size w w1 := Below.grown (by (repeat (first | with_reducible exact Below.refl _ _ | with_reducible refine bl_drewN ?_ _ | with_reducible refine Below.drew ?_ | with_reducible refine bl_alloc ?_ _ | with_reducible refine Below.alloc ?_ (by first | omega | (simp; done) | (simp; omega)) _ | with_reducible refine Below.setCell ?_ (by first | omega | (simp; done) | (simp; omega)) _ | with_reducible assumption))) hgrow1 (by simp; omega) (by simp [Value.ownBlock]))
    | (refine step_append_lies _ (by rfl) (.tmp 6) (.tmp 7) 34 (by rfl) (w.heap.size + 3) 22 i0 (.int .u32 0) 1 4 Try.underlying34 hi hz0 hz1 hz2 rfl (by decide) _ _ _ (by rfl) hown1 ⟨w.heap.size + 1, 0, none⟩ 4 4 [.int .u32 b.1, .int .u32 b.2.1, .int .u32 b.2.2.1, .int .u32 b.2.2.2] (by rfl) rfl (news4 hA1) (one4 _ _ _ _) (by decide) (by simp only [maxLen]; omega) (by omega) (by have := hC1.lt; omega) _ rfl ?_
       intro g2 cap2 w2 hown2 hgrow2 hat2 hlt2
       have hC2 := hC1.grown hgrow2 (fun e => by have := (hown1.lt _ e.symm).1; omega)
       have hb2 : Below w.heap.size w w2 := hb1.grown hgrow2 hb1.size (fun j hj => by have := (hown1.lt j hj).1; omega)
       obtain ⟨A3, c3, e3, hr3⟩ := own_rd (l := [a.1, a.2.1, a.2.2.1, a.2.2.2, b.1, b.2.1, b.2.2.1, b.2.2.2]) hown2)
    | (go_simp
       go_at_call 13
       refine (rwords_any 1 A3 c3 [a.1, a.2.1, a.2.2.1, a.2.2.2, b.1, b.2.1, b.2.2.1, b.2.2.2] _ (by simp) hr3).mono ?_
       rintro e w3 ⟨rfl, hb3⟩
       have hC3 := hC2.old hb3
       have hc3 : Below w.heap.size w w3 := hb2.trans (hb3.mono hb2.size)
       have p0 : w3.cell? ⟨w.heap.size + 1 + 1, 0, none⟩ = some (.int .u32 0) := hC3.cell 0
       have p1 : w3.cell? ⟨w.heap.size + 1 + 1, 1, none⟩ = some (.int .u32 0) := hC3.cell 1
       have p2 : w3.cell? ⟨w.heap.size + 1 + 1, 2, none⟩ = some (.int .u32 0) := hC3.cell 2
       have p3 : w3.cell? ⟨w.heap.size + 1 + 1, 3, none⟩ = some (.int .u32 0) := hC3.cell 3
       have f0 : w3.frozen? ⟨w.heap.size + 1 + 1, 0, none⟩ = false := hC3.frozen 0
       have f1 : w3.frozen? ⟨w.heap.size + 1 + 1, 1, none⟩ = false := hC3.frozen 1
       have f2 : w3.frozen? ⟨w.heap.size + 1 + 1, 2, none⟩ = false := hC3.frozen 2
       have f3 : w3.frozen? ⟨w.heap.size + 1 + 1, 3, none⟩ = false := hC3.frozen 3))
  go_wp2_with fail
  refine bodyPost_ret (v := dv (joinw a b)) (by simp [results, Try.results21, go_sem, p0, p1, p2, p3, joinw]) rfl ⟨rfl, ?_⟩
  (repeat (first | with_reducible exact Below.refl _ _ | with_reducible refine bl_drewN ?_ _ | with_reducible refine Below.drew ?_ | with_reducible refine bl_alloc ?_ _ | with_reducible refine Below.alloc ?_ (by first | omega | (simp; done) | (simp; omega)) _ | with_reducible refine Below.setCell ?_ (by first | omega | (simp; done) | (simp; omega)) _ | with_reducible assumption))
end Go.Proofs.Ytoiipifoehfcdaa.Dg
