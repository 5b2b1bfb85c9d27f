/- Walk: the statement SchemeValid. -/
import Derived.Test.YtokddjohdodkmaaHM
import Derived.WalkKit
import Derived.WalkSpells
import Derived.WalkLawsBesides
import Derived.Deep.QuietTactic
import Derived.BigQuiet
import Derived.Deep.Draws
import Derived.Deep.AppendLies
import Derived.Laws.OwnMore
import Derived.Laws.BytesArg
import Derived.Lib.Hide
import Derived.Deep.LoopGhost
import Derived.Deep.CutBlock
namespace Go.Proofs.Ytokddjohdodkmaa.Tm
open Go.RowKit Go.Proofs.Ytokddjohdodkmaa.Mw
open Go.Proofs.Ytokddjohdodkmaa.Mm (RC)
set_option linter.unusedVariables false
set_option linter.unusedSimpArgs false

/-- A paper and a scheme that the tape has made lie in memory. -/
structure PS2 (w W : World) (tp gp_ gs : Nat) (p : Pa) (s : Sc) : Prop where
  pa : PaOk W p
  sc : ScOk W s
  b1 : Bk W gp_ 27 (pac p)
  b2 : Bk W gs 31 (scc s)
  be : Below w.heap.size w W
  ta : Tp W tp
  aw : Away tp p.A
  sw : ScAw tp s
  n1 : tp ≠ gp_
  n2 : tp ≠ gs
  lw : w.heap.size ≤ tp
section
variable {w W W' : World} {tp gp_ gs : Nat} {p : Pa} {s : Sc}
theorem PS2.old (h : PS2 w W tp gp_ gs p s) (hb : Below W.heap.size W W') : PS2 w W' tp gp_ gs p s := ⟨h.pa.old hb, h.sc.old hb, h.b1.old hb, h.b2.old hb, bl_trans h.be hb, h.ta.old hb, h.aw, h.sw, h.n1, h.n2, h.lw⟩
theorem PS2.turn (h : PS2 w W tp gp_ gs p s) (hg : W.grownBy W' (some tp)) (ht : Tp W' tp) : PS2 w W' tp gp_ gs p s := ⟨h.pa.grown hg h.aw, h.sc.grown hg h.sw, h.b1.kept hg h.n1.symm, h.b2.kept hg h.n2.symm, bl_gb h.be hg h.lw, ht, h.aw, h.sw, h.n1, h.n2, h.lw⟩
end
set_option maxHeartbeats 4000000 in
set_option maxRecDepth 200000 in
theorem valid_st (l : List Int) (B : Option Addr) (cB : Nat) (part ans : Int) (w : World) (hl : l.length ≤ maxLen) (hlc : l.length ≤ cB) (hi : ∀ n ∈ l, I64 n) (hB : RdI w .i64 B l) (h1 : I64 part) (h2 : I64 ans) :
    Calls Try.prog 10 #[.slice B l.length cB, .int .i64 part, .int .i64 ans] w fun e w' => e = .returned (.bool true) ∧ Below w.heap.size w w' := by
  go_enter Try.func10, Try.ntmps10
  go_wp2_with fail
  refine (new_any l B cB _ hB hl hlc hi).mono ?_
  rintro e w1 ⟨rfl, ht1, hb1⟩
  have hlt1 := ht1.lt
  clear hB hi
  unfold maxLen at hl
  go_wp2_with fail
  refine (loosep_any w.heap.size 8 _ ht1 (by omega) (by omega)).mono ?_
  rintro e w2 ⟨c, v, ps, A, k, ⟨hps, hPL⟩, hr, hA, rfl, ht2, hg2⟩
  have hc2 : Below w.heap.size w w2 := bl_gb hb1 hg2 (Nat.le_refl _)
  have hlt2 := ht2.lt
  obtain ⟨p, hp⟩ : ∃ p : Pa, p = ⟨c, v, A, k, ps⟩ := ⟨_, rfl⟩
  have hpl : p.l.length ≤ 20 := by rw [hp]; exact hps
  have hPLp : PL p.l := by rw [hp]; exact hPL
  have hpa : PaOk (w2.alloc (.cells (pac p) 27)) p := by rw [hp]; exact ⟨hr.alloc _, by show ps.length ≤ 1000; omega⟩
  have haw : Away w.heap.size p.A := by rw [hp]; exact fun a ha => by have := hA a ha; omega
  have hv : (.agg #[.int .i64 c, .int .i64 v, .slice A ps.length k] : Value) = pav p := by rw [hp]
  rw [hv]
  have b1 : Bk (w2.alloc (.cells (pac p) 27)) w2.heap.size 27 (pac p) := Bk.new' rfl
  clear hp hv hr hA hPL hps hb1 hg2 ht1
  go_wp2_with fail
  refine (tscheme_any w.heap.size p 4 _ (ht2.alloc _) hpa haw hpl hPLp (by omega)).mono ?_
  rintro e w3 ⟨s, hs, hnew, -, rfl, ht3, hg3⟩
  have sw : ScAw w.heap.size s := ⟨fun a ha => by have := hnew.1 a ha; simp at this; omega, fun a ha => by have := hnew.2.1 a ha; simp at this; omega, fun i hi a ha => by have := hnew.2.2 i hi a ha; simp at this; omega⟩
  have hz3 := hg3.size
  have P3 : PS2 w (w3.alloc (.cells (scc s) 31)) w.heap.size w2.heap.size w3.heap.size p s :=
    ⟨(hpa.grown hg3 haw).alloc _, hs.alloc _, (b1.kept hg3 (by omega)).alloc _, Bk.new' rfl, bl_alloc (bl_gb (bl_alloc hc2 _) hg3 (Nat.le_refl _)) _, ht3.alloc _, haw, sw, by omega, by simp at hz3; omega, Nat.le_refl _⟩
  clear hpa b1 hs hnew ht3 hg3 hc2 ht2 sw haw
  go_wp2_with fail
  refine (cut_any part 7 (by omega) (by omega) h1 _).mono ?_
  rintro e w4 ⟨rfl, rfl⟩
  go_wp2_with fail
  refine (cut_any ans 8 (by omega) (by omega) h2 _).mono ?_
  rintro e w5 ⟨rfl, rfl⟩
  have hx : 0 ≤ ans % 8 ∧ ans % 8 < 8 := by omega
  generalize part % 7 = kk
  generalize ans % 8 = aa at hx ⊢
  clear h1 h2 hz3
  go_upto_region 5 with fail
  generalize w3.alloc (.cells (scc s) 31) = W at P3 ⊢
  have R1 : RC 35 #[pav p, scv s] W (.bool (sval p s)) := RC.of fun V hV => valid_any p s V (P3.pa.old hV) (P3.sc.old hV)
  have R2 : RC 36 #[pav p, scv s] W (.bool (sval p s)) := RC.of fun V hV => rvalid_any p s V (P3.pa.old hV) (P3.sc.old hV)
  have R3 : RC 37 #[pav p, scv s, .int .i64 part, .int .i64 ans] W (.bool (accS p s part ans)) := RC.of fun V hV => accepts_any p s part ans V (P3.pa.old hV) (P3.sc.old hV)
  have R4 : RC 38 #[pav p, scv s, .int .i64 part, .int .i64 ans] W (.bool (accS p s part ans)) := RC.of fun V hV => raccepts_any p s part ans V (P3.pa.old hV) (P3.sc.old hV)
  have R5 : RC 37 #[pav p, scv s, .int .i64 kk, .int .i64 (aa - 2)] W (.bool (accS p s kk (aa - 2))) := RC.of fun V hV => accepts_any p s kk (aa - 2) V (P3.pa.old hV) (P3.sc.old hV)
  have R6 : RC 38 #[pav p, scv s, .int .i64 kk, .int .i64 (aa - 2)] W (.bool (accS p s kk (aa - 2))) := RC.of fun V hV => raccepts_any p s kk (aa - 2) V (P3.pa.old hV) (P3.sc.old hV)
  have R7 : RC 19 #[] W (.bool true) := RC.of fun V _ => awake_any V
  generalize sval p s = x1 at R1 R2
  generalize accS p s part ans = x2 at R3 R4
  generalize accS p s kk (aa - 2) = x3 at R5 R6
  obtain ⟨k0, k1, k2⟩ := bk3' P3.b1
  obtain ⟨⟨m0, m1⟩, -⟩ := bk2 P3.b2
  have l1 := P3.b1.lt
  have l2 := P3.b2.lt
  have hbe := P3.be
  clear P3
  refine Mm.region_ext (by kernel_rfl) (by kernel_rfl) ?_; (repeat (first | go_big_quiet_step ((exact Mm.RC.call (by with_reducible assumption) _)) | quiet_step ((exact Mm.RC.call (by with_reducible assumption) _)))); refine wpQuiet_nil ?_
  intro w6 hb6
  go_wp2_with fail
  go_ret
  exact ⟨rfl, bl_trans hbe hb6⟩
end Go.Proofs.Ytokddjohdodkmaa.Tm
