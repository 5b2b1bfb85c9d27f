/- Walk: the statement SchemeWithdraws. -/
import Derived.Test.YtokddjohdodkmaaHN
import Derived.Test.YtokddjohdodkmaaHP
import Derived.WalkKit
import Derived.WalkSpells
import Derived.WalkLawsBesides
import Derived.Deep.QuietTactic
import Derived.BigQuiet
import Derived.Deep.Draws
import Derived.Deep.AppendLies
import Derived.Laws.OwnMore
import Derived.Laws.BytesArg
import Derived.Lib.Hide
import Derived.Deep.LoopGhost
import Derived.Deep.CutBlock
namespace Go.Proofs.Ytokddjohdodkmaa.Tm
open Go.RowKit Go.Proofs.Ytokddjohdodkmaa.Mw
open Go.Proofs.Ytokddjohdodkmaa.Mm (RC)
set_option linter.unusedVariables false

set_option maxHeartbeats 4000000 in
set_option maxRecDepth 200000 in
theorem withdraws_st (l : List Int) (B : Option Addr) (cB : Nat) (part kind : Int) (w : World) (hl : l.length ≤ maxLen) (hlc : l.length ≤ cB) (hi : ∀ n ∈ l, I64 n) (hB : RdI w .i64 B l) (h1 : I64 part) (h2 : I64 kind) :
    Calls Try.prog 5 #[.slice B l.length cB, .int .i64 part, .int .i64 kind] w fun e w' => e = .returned (.bool true) ∧ Below w.heap.size w w' := by
  go_enter Try.func5, Try.ntmps5
  go_wp2_with fail
  refine (new_any l B cB _ hB hl hlc hi).mono ?_
  rintro e w1 ⟨rfl, ht1, hb1⟩
  have hlt1 := ht1.lt
  clear hB hi
  unfold maxLen at hl
  go_wp2_with fail
  refine (loosep_any w.heap.size 12 _ ht1 (by omega) (by omega)).mono ?_
  rintro e w2 ⟨c, v, ps, A, k, ⟨hps, hPL⟩, hr, hA, rfl, ht2, hg2⟩
  have hc2 : Below w.heap.size w w2 := bl_gb hb1 hg2 (Nat.le_refl _)
  have hlt2 := ht2.lt
  obtain ⟨p, hp⟩ : ∃ p : Pa, p = ⟨c, v, A, k, ps⟩ := ⟨_, rfl⟩
  have hpl : p.l.length ≤ 20 := by rw [hp]; exact hps
  have hPLp : PL p.l := by rw [hp]; exact hPL
  have hpa : PaOk (w2.alloc (.cells (pac p) 27)) p := by rw [hp]; exact ⟨hr.alloc _, by show ps.length ≤ 1000; omega⟩
  have haw : Away w.heap.size p.A := by rw [hp]; exact fun a ha => by have := hA a ha; omega
  have hv : (.agg #[.int .i64 c, .int .i64 v, .slice A ps.length k] : Value) = pav p := by rw [hp]
  rw [hv]
  have b1 : Bk (w2.alloc (.cells (pac p) 27)) w2.heap.size 27 (pac p) := Bk.new' rfl
  clear hp hv hr hA hPL hps hb1 hg2 ht1
  go_wp2_with fail
  refine (tscheme_any w.heap.size p 10 _ (ht2.alloc _) hpa haw hpl hPLp (by omega)).mono ?_
  rintro e w3 ⟨s, hs, hnew, -, rfl, ht3, hg3⟩
  have sw : ScAw w.heap.size s := ⟨fun a ha => by have := hnew.1 a ha; simp at this; omega, fun a ha => by have := hnew.2.1 a ha; simp at this; omega, fun i hi a ha => by have := hnew.2.2 i hi a ha; simp at this; omega⟩
  have hz3 := hg3.size
  have P3 : PS2 w (w3.alloc (.cells (scc s) 31)) w.heap.size w2.heap.size w3.heap.size p s :=
    ⟨(hpa.grown hg3 haw).alloc _, hs.alloc _, (b1.kept hg3 (by omega)).alloc _, Bk.new' rfl, bl_alloc (bl_gb (bl_alloc hc2 _) hg3 (Nat.le_refl _)) _, ht3.alloc _, haw, sw, by omega, by simp at hz3; omega, Nat.le_refl _⟩
  clear hpa b1 hs hnew ht3 hg3 hc2 ht2 sw haw hz3
  go_wp2_with fail
  refine (cut_any part 7 (by omega) (by omega) h1 _).mono ?_
  rintro e w4 ⟨rfl, rfl⟩
  go_wp2_with fail
  refine (cut_any kind 5 (by omega) (by omega) h2 _).mono ?_
  rintro e w5 ⟨rfl, rfl⟩
  have hx : 0 ≤ kind % 5 ∧ kind % 5 < 5 := by omega
  generalize part % 7 = kk
  generalize kind % 5 = aa at hx ⊢
  clear h1 h2
  go_upto_region 5 with fail
  generalize w3.alloc (.cells (scc s) 31) = V0 at P3 ⊢
  obtain ⟨k0, k1, k2⟩ := bk3' P3.b1
  obtain ⟨⟨m0, m1⟩, -⟩ := bk2 P3.b2
  have l1 := P3.b1.lt
  have l2 := P3.b2.lt
  go_wp2_with fail
  refine (withdraw_any p s part kind _ P3.pa P3.sc).mono ?_
  rintro e y1 ⟨s1, rfl, hs1', hk1', hw1', hb1⟩
  have hk1 := Lib.hid hk1'
  have hw1 := Lib.hid hw1'
  clear hk1' hw1'
  have P1x := (P3.old hb1).old ((Below.refl _ _).alloc (Nat.le_refl _) (.cells (scc s1) 31))
  have B1 : Bk (y1.alloc (.cells (scc s1) 31)) y1.heap.size 31 (scc s1) := Bk.new' rfl
  have hs1 := hs1'.alloc (.cells (scc s1) 31)
  clear P3 hb1 hs1' k0 k1 k2 m0 m1 l1 l2
  go_upto_region 6 with fail
  generalize y1.alloc (.cells (scc s1) 31) = V1 at P1x B1 hs1 ⊢
  obtain ⟨k0, k1, k2⟩ := bk3' P1x.b1
  obtain ⟨⟨m0, m1⟩, -⟩ := bk2 P1x.b2
  have l1 := P1x.b1.lt
  have l2 := P1x.b2.lt
  go_wp2_with fail
  refine (rwithdraw_any p s part kind _ P1x.pa P1x.sc).mono ?_
  rintro e y2 ⟨s2, rfl, hs2', hk2', hw2', hb2⟩
  have hk2 := Lib.hid hk2'
  have hw2 := Lib.hid hw2'
  clear hk2' hw2'
  have P2x := (P1x.old hb2).old ((Below.refl _ _).alloc (Nat.le_refl _) (.cells (scc s2) 31))
  have B2 : Bk (y2.alloc (.cells (scc s2) 31)) y2.heap.size 31 (scc s2) := Bk.new' rfl
  have hs2 := hs2'.alloc (.cells (scc s2) 31)
  have hs1x := (hs1.old hb2).alloc (.cells (scc s2) 31)
  have B1x := (B1.old hb2).alloc (.cells (scc s2) 31)
  clear P1x hb2 hs2' k0 k1 k2 m0 m1 l1 l2 hs1 B1
  have hs1 := hs1x
  have B1 := B1x
  clear hs1x B1x
  go_upto_region 7 with fail
  generalize y2.alloc (.cells (scc s2) 31) = V2 at P2x B2 hs2 hs1 B1 ⊢
  obtain ⟨k0, k1, k2⟩ := bk3' P2x.b1
  obtain ⟨⟨m0, m1⟩, -⟩ := bk2 P2x.b2
  have l1 := P2x.b1.lt
  have l2 := P2x.b2.lt
  go_wp2_with fail
  refine (withdraw_any p s kk (aa - 1) _ P2x.pa P2x.sc).mono ?_
  rintro e y3 ⟨s3, rfl, hs3', hk3', hw3', hb3⟩
  have hk3 := Lib.hid hk3'
  have hw3 := Lib.hid hw3'
  clear hk3' hw3'
  have P3x := (P2x.old hb3).old ((Below.refl _ _).alloc (Nat.le_refl _) (.cells (scc s3) 31))
  have B3 : Bk (y3.alloc (.cells (scc s3) 31)) y3.heap.size 31 (scc s3) := Bk.new' rfl
  have hs3 := hs3'.alloc (.cells (scc s3) 31)
  have hs1x := (hs1.old hb3).alloc (.cells (scc s3) 31)
  have B1x := (B1.old hb3).alloc (.cells (scc s3) 31)
  have hs2x := (hs2.old hb3).alloc (.cells (scc s3) 31)
  have B2x := (B2.old hb3).alloc (.cells (scc s3) 31)
  clear P2x hb3 hs3' k0 k1 k2 m0 m1 l1 l2 hs1 B1 hs2 B2
  have hs1 := hs1x
  have B1 := B1x
  clear hs1x B1x
  have hs2 := hs2x
  have B2 := B2x
  clear hs2x B2x
  go_upto_region 8 with fail
  generalize y3.alloc (.cells (scc s3) 31) = V3 at P3x B3 hs3 hs1 B1 hs2 B2 ⊢
  obtain ⟨k0, k1, k2⟩ := bk3' P3x.b1
  obtain ⟨⟨m0, m1⟩, -⟩ := bk2 P3x.b2
  have l1 := P3x.b1.lt
  have l2 := P3x.b2.lt
  go_wp2_with fail
  refine (rwithdraw_any p s kk (aa - 1) _ P3x.pa P3x.sc).mono ?_
  rintro e y4 ⟨s4, rfl, hs4', hk4', hw4', hb4⟩
  have hk4 := Lib.hid hk4'
  have hw4 := Lib.hid hw4'
  clear hk4' hw4'
  have P4x := (P3x.old hb4).old ((Below.refl _ _).alloc (Nat.le_refl _) (.cells (scc s4) 31))
  have B4 : Bk (y4.alloc (.cells (scc s4) 31)) y4.heap.size 31 (scc s4) := Bk.new' rfl
  have hs4 := hs4'.alloc (.cells (scc s4) 31)
  have hs1x := (hs1.old hb4).alloc (.cells (scc s4) 31)
  have B1x := (B1.old hb4).alloc (.cells (scc s4) 31)
  have hs2x := (hs2.old hb4).alloc (.cells (scc s4) 31)
  have B2x := (B2.old hb4).alloc (.cells (scc s4) 31)
  have hs3x := (hs3.old hb4).alloc (.cells (scc s4) 31)
  have B3x := (B3.old hb4).alloc (.cells (scc s4) 31)
  clear P3x hb4 hs4' k0 k1 k2 m0 m1 l1 l2 hs1 B1 hs2 B2 hs3 B3
  have hs1 := hs1x
  have B1 := B1x
  clear hs1x B1x
  have hs2 := hs2x
  have B2 := B2x
  clear hs2x B2x
  have hs3 := hs3x
  have B3 := B3x
  clear hs3x B3x
  go_upto_region 9 with fail
  generalize y4.alloc (.cells (scc s4) 31) = V4 at P4x B4 hs4 hs1 B1 hs2 B2 hs3 B3 ⊢
  obtain ⟨k0, k1, k2⟩ := bk3' P4x.b1
  obtain ⟨⟨m0, m1⟩, -⟩ := bk2 P4x.b2
  have l1 := P4x.b1.lt
  have l2 := P4x.b2.lt
  obtain ⟨⟨a0, a1⟩, -⟩ := bk2 B1
  obtain ⟨⟨b0, b1⟩, -⟩ := bk2 B2
  go_wp2_with fail
  refine (same_any s1 s2 _ hs1 hs2 (hk1.out.trans hk2.out.symm) (hw1.out.trans hw2.out.symm)).mono ?_
  rintro e z1 ⟨rfl, hz1⟩
  have hs3z := hs3.old hz1
  have hs4z := hs4.old hz1
  obtain ⟨⟨c0, c1⟩, -⟩ := bk2 (B3.old hz1)
  obtain ⟨⟨d0, d1⟩, -⟩ := bk2 (B4.old hz1)
  go_wp2_with fail
  refine (same_any s3 s4 _ hs3z hs4z (hk3.out.trans hk4.out.symm) (hw3.out.trans hw4.out.symm)).mono ?_
  rintro e z2 ⟨rfl, hz2⟩
  go_wp2_with fail
  refine (awake_any _).mono ?_
  rintro e z3 ⟨rfl, hz3⟩
  go_wp2_with fail
  go_ret
  exact ⟨rfl, bl_trans (bl_trans (bl_trans P4x.be hz1) hz2) hz3⟩
end Go.Proofs.Ytokddjohdodkmaa.Tm
