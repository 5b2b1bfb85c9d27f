/- Walks: papers off the tape. -/
import Derived.Test.YtokddjohdodkmaaTX
import Derived.Test.YtokddjohdodkmaaTZ
import Derived.WalkKit
import Derived.WalkSpells
import Derived.WalkLawsBesides
import Derived.Deep.QuietTactic
import Derived.BigQuiet
import Derived.Deep.Draws
import Derived.Deep.AppendLies
import Derived.Laws.OwnMore
import Derived.Laws.BytesArg
import Derived.Lib.Hide
import Derived.Deep.LoopGhost
import Derived.Deep.DeepCutAuto
import Derived.Deep.RegionLaw
import Derived.Deep.AppendLies
namespace Go.Proofs.Ytokddjohdodkmaa.Tm
open Go.RowKit Go.Proofs.Ytokddjohdodkmaa.Mw
set_option linter.unusedVariables false
set_option linter.unusedSimpArgs false

/-- The memory of a paper under construction: its struct in block g, its row in another block from base on, the tape in an earlier one. -/
structure PS (w : World) (g tp base : Nat) (c v : Int) (ps : List Pt) (vP : Value) : Prop where
  bk : Bk w g 27 #[.int .i64 c, .int .i64 v, vP]
  ps : w.ownsRow base 49 6 vP ps.length (ps.flatMap pl)
  ne : vP.ownBlock ≠ some g
  tape : Tp w tp
  lt : tp < g
  ltb : tp < base
section
variable {w w' : World} {g tp base : Nat} {c v : Int} {ps : List Pt} {vP : Value}
theorem PS.turn (h : PS w g tp base c v ps vP) (hg : w.grownBy w' (some tp)) (ht : Tp w' tp) : PS w' g tp base c v ps vP :=
  ⟨h.bk.kept hg (by have := h.lt; omega), own_away h.ps hg h.ltb, h.ne, ht, h.lt, h.ltb⟩
theorem PS.old (h : PS w g tp base c v ps vP) (hb : Below w.heap.size w w') : PS w' g tp base c v ps vP :=
  ⟨h.bk.old hb, h.ps.kept (gb_of none hb) (by cases hv : vP.ownBlock <;> simp), h.ne, h.tape.old hb, h.lt, h.ltb⟩
theorem PS.alloc (h : PS w g tp base c v ps vP) (o : Obj) : PS (w.alloc o) g tp base c v ps vP := h.old ((Below.refl _ _).alloc (Nat.le_refl _) o)
theorem own_set' {b : Nat} {e : TypeId} {s n : Nat} {u : Value} {xs : List Value} (h : w.ownsRow b e s u n xs) {p : Addr} (hr : u.ownBlock ≠ some p.block) (x : Value) : (w.setCell p x).ownsRow b e s u n xs :=
  h.kept (gb_set (gb_refl _ (some p.block)) (.inl rfl) x) (.inr hr)
theorem PS.add {v' : Value} {l : List Pt} (h : PS w g tp base c v ps vP) (hg : w.grownBy w' vP.ownBlock) (ho : w'.ownsRow base 49 6 v' (ps.length + l.length) (ps.flatMap pl ++ l.flatMap pl)) (hne : v'.ownBlock ≠ some g) :
    PS (w'.setCell ⟨g, 2, none⟩ v') g tp base c v (ps ++ l) v' := by
  have hlt := h.lt
  have hB := h.bk.grown hg (fun e => h.ne e.symm)
  refine ⟨hB.set 2 v', ?_, hne, (tape_grown h.tape h.ps h.ltb hg).far (by simp; omega) _, hlt, h.ltb⟩
  have := own_set' ho (p := ⟨g, 2, none⟩) hne v'
  rw [List.flatMap_append, List.length_append]
  exact this
theorem PS.setC (h : PS w g tp base c v ps vP) (u : Int) : PS (w.setCell ⟨g, 0, none⟩ (.int .i64 u)) g tp base u v ps vP :=
  ⟨h.bk.set 0 _, own_set' h.ps h.ne _, h.ne, h.tape.far h.lt _, h.lt, h.ltb⟩
theorem PS.setV (h : PS w g tp base c v ps vP) (u : Int) : PS (w.setCell ⟨g, 1, none⟩ (.int .i64 u)) g tp base c u ps vP :=
  ⟨h.bk.set 1 _, own_set' h.ps h.ne _, h.ne, h.tape.far h.lt _, h.lt, h.ltb⟩
theorem PS.none (h : PS w g tp base c v ps vP) : PS (w.setCell ⟨g, 2, none⟩ (.slice none 0 0)) g tp base c v [] (.slice none 0 0) :=
  ⟨h.bk.set 2 _, World.ownsRow_nil _ _ _ _, by simp [Value.ownBlock], h.tape.far h.lt _, h.lt, h.ltb⟩
theorem ne_lies {H g4 n cap : Nat} (h : vP.ownBlock ≠ some g) (hat : vP.ownBlock = some g4 ∨ g4 = H) (hH : g < H) : (Value.slice (some ⟨g4, 0, none⟩) n cap).ownBlock ≠ some g := by
  intro e
  have e' : g4 = g := by simpa [Value.ownBlock] using e
  subst e'
  rcases hat with h1 | h1
  · exact h h1
  · omega
end
theorem psOk_snoc' {l : List Pt} {p : Pt} (h : psOk l = true) (hp : vp p = true) : psOk (l ++ [p]) = true := by
  unfold psOk
  refine allI_true fun j hj => ?_
  by_cases h1 : j < l.length
  · rw [gp_left _ _ _ h1]; exact allI_at h j h1
  · have : j = l.length := by simp at hj; omega
    subst this
    rw [gp_snoc]; exact hp
theorem set3 (w : World) (g : Nat) (a b c : Value) : w.grownBy (((w.setCell ⟨g, 0, none⟩ a).setCell ⟨g, 1, none⟩ b).setCell ⟨g, 2, none⟩ c) (some g) :=
  gb_set (p := ⟨g, 2, none⟩) (gb_set (p := ⟨g, 1, none⟩) (gb_set (p := ⟨g, 0, none⟩) (gb_refl _ _) (.inl rfl) _) (.inl rfl) _) (.inl rfl) _
theorem far3 {w : World} {tp : Nat} (h : Tp w tp) (g : Nat) (hg : tp < g) (a b c : Value) : Tp (((w.setCell ⟨g, 0, none⟩ a).setCell ⟨g, 1, none⟩ b).setCell ⟨g, 2, none⟩ c) tp :=
  ((h.far (p := ⟨g, 0, none⟩) hg _).far (p := ⟨g, 1, none⟩) hg _).far (p := ⟨g, 2, none⟩) hg _
abbrev ppz : Array Value := #[.int .i64 0, .int .i64 0, .slice none 0 0]
/-- What the ending of Paper is. -/
def TPa (c v : Int) (tp : Nat) (w : World) (e : Ending) (w' : World) : Prop := ∃ (l : List Pt) (vP : Value), 1 ≤ l.length ∧ l.length ≤ 6 ∧ psOk l = true ∧ w'.ownsRow w.heap.size 49 6 vP l.length (l.flatMap pl) ∧ e = .returned (.agg #[.int .i64 c, .int .i64 v, vP]) ∧ Tp w' tp ∧ w.grownBy w' (some tp)

set_option maxHeartbeats 2000000 in
set_option maxRecDepth 100000 in
theorem paper_any (tp : Nat) (c v : Int) (w : World) (ht : Tp w tp) :
    Calls Try.prog 29 #[.pointer (some ⟨tp, 0, none⟩), .int .i64 c, .int .i64 v] w (TPa c v tp w) := by
  obtain ⟨i0, hi0, hz0, hz1, hz2⟩ := info_parts infoPart'
  have hlt := ht.lt
  go_enter Try.func29, Try.ntmps29
  go_wp2_with fail
  refine (range_any tp 1 6 _ ((ht.alloc _).alloc _) (by omega) (by omega) (by omega)).mono ?_
  rintro e w2 ⟨N0, hN, rfl, ht2, hg2⟩
  obtain ⟨N, rfl⟩ := Int.eq_ofNat_of_zero_le (show 0 ≤ N0 by omega)
  have r2 : Bk w2 w.heap.size 27 ppz := Bk.kept (by (repeat (first | (refine Bk.new' ?_; (first | rfl | (simp; done) | (simp; omega))) | refine Bk.alloc ?_ _ | refine Bk.drewN ?_ _ | refine Bk.drew ?_ | with_reducible assumption))) hg2 (by omega)
  have hc2 := gb_trans (gb_alloc (gb_alloc (gb_refl w (some tp)) _) _) hg2
  have hI2 : PS w2 (w.heap.size + 1) tp (w.heap.size + 1 + 1) c v [] (.slice none 0 0) := ⟨Bk.kept (by (repeat (first | (refine Bk.new' ?_; (first | rfl | (simp; done) | (simp; omega))) | refine Bk.alloc ?_ _ | refine Bk.drewN ?_ _ | refine Bk.drew ?_ | with_reducible assumption))) hg2 (by omega), World.ownsRow_nil _ _ _ _, by simp [Value.ownBlock], ht2, by omega, by omega⟩
  clear hg2
  go_wp2_with fail
  go_loopw [8] (fun j wr => ∃ (k : Nat) (ps : List Pt) (vP : Value), j = .int .i64 k ∧ ps.length + k = N ∧ psOk ps = true ∧ PS wr (w.heap.size + 1) tp (w.heap.size + 1 + 1) c v ps vP ∧ Bk wr w.heap.size 27 ppz ∧ w.grownBy wr (some tp)) (fun j _ => (intOf j).toNat)
  case atStart => exact ⟨N, [], _, rfl, by simp, rfl, hI2, r2, hc2⟩
  case round =>
    clear hI2 r2 hc2 ht2
    obtain ⟨k, ps, vP, rfl, hlen, hps, hI, hr, hc⟩ := hrel
    have Hlen := Lib.hid hlen
    have Hps := Lib.hid hps
    have hl1 : ps.length ≤ 6 := by omega
    have hk3 : k ≤ 6 := by omega
    clear hlen hps
    by_cases hk0 : 0 < k
    · have hk0' : (0 : Int) < k := by omega
      have d3 : wr.cell? ⟨w.heap.size + 1, 2, none⟩ = some vP := hI.bk.cell 2
      go_wp2_with fail
      go_region_law (first
        | (refine step_append_lies _ (by rfl) (.tmp 19) (.tmp 22) 25 (by rfl) (w.heap.size + 1 + 1) 49 i0 (pv ⟨0, 0, 0, 0, 0, 0⟩) 6 48 Try.underlying25 hi0 hz0 hz1 hz2 rfl (by decide) vP ps.length (ps.flatMap pl) (by rfl) (hI3.ps.alloc _) ⟨w3.heap.size, 0, none⟩ 1 1 (pl p) (by rfl) rfl (news_part' p (by exact Bk.new' rfl)) (pl_one' p) (by decide) (by simp only [maxLen]; omega) (by omega) (by simp; omega) _ rfl ?_
           intro g4 cap4 w4 hown4 hgrow4 hat4 hlt4
           have hB4 := (hI3.alloc (.cells (pl p).toArray 49)).bk.grown hgrow4 (fun e => by have := (hI3.ps.lt _ e.symm).1; omega)
           have e3 : w4.cell? ⟨w.heap.size + 1, 2, none⟩ = some vP := hB4.cell 2
           have ef : w4.frozen? ⟨w.heap.size + 1, 2, none⟩ = false := hB4.frozen 2)
        | (go_simp
           go_at_call 42
           refine (part_any tp 0 _ (by exact hI.tape) (by omega)).mono ?_
           rintro e w3 ⟨p, hp64, hpv, rfl, ht3, hg3⟩
           have hI3 := hI.turn (gb_trans (gb_drew (gb_refl _ _)) hg3) ht3
           have d4 : w3.cell? ⟨w.heap.size + 1, 2, none⟩ = some vP := hI3.bk.cell 2
           have hb3 := hI3.bk.lt
           have hr3 := hr.kept (gb_trans (gb_drew (gb_refl _ _)) hg3) (by omega)
           have hc3 := gb_trans hc (gb_trans (gb_drew (gb_refl _ _)) hg3)))
      all_goals
        have hI4 := (hI3.alloc _).add (l := [p]) hgrow4 hown4 (ne_lies hI3.ne hat4 (by simp; omega))
        have hr4 := Bk.far (p := ⟨w.heap.size + 1, 2, none⟩) ((hr3.alloc _).grown hgrow4 (fun e => by have := (hI3.ps.lt _ e.symm).1; omega)) (by simp) (.slice (some ⟨g4, 0, none⟩) (ps.length + 1) cap4)
        have hc4 := gb_set (p := ⟨w.heap.size + 1, 2, none⟩) (gb_grown (gb_alloc hc3 _) hgrow4 (fun k hk => by have := (hI3.ps.lt k hk).1; omega)) (.inr (by simp)) (.slice (some ⟨g4, 0, none⟩) (ps.length + 1) cap4)
        clear hgrow4 hown4 hI3 hr3 hc3 hg3 d3 d4 e3 ef
        go_wp2_with fail
        go_roundw
        case rel => exact ⟨k - 1, ps ++ [p], _, by go_num, by have := Hlen.out; simp; omega, psOk_snoc' Hps.out (hpv (by omega)), hI4, hr4, hc4⟩
        case measure => simp [intOf]; omega
    · have hN1 : 1 ≤ ps.length := by have := Hlen.out; omega
      obtain ⟨⟨c0, c1, c2⟩, f0, f1, f2⟩ := bk3 hI.bk
      obtain ⟨⟨e0, e1, e2⟩, m0, m1, m2⟩ := bk3 hr
      have HG := Lib.hid (set3 wr w.heap.size (.int .i64 c) (.int .i64 v) vP)
      have HO := Lib.hid (own_away hI.ps HG.out (by omega))
      have HT := Lib.hid (far3 hI.tape w.heap.size hlt (.int .i64 c) (.int .i64 v) vP)
      obtain ⟨A1, cA, rfl, _, _⟩ := own_parts hI.ps
      go_wp2_with fail
      refine bodyPost_ret (v := .agg #[.int .i64 c, .int .i64 v, .slice A1 ps.length cA]) (by simp [results, Try.results29, go_sem, c0, c1, c2, e0, e1, e2]) rfl ⟨ps, _, hN1, hl1, Hps.out, ?_, rfl, HT.out, gb_grown hc HG.out (fun k hk => by cases hk; omega)⟩
      have := HO.out
      exact ⟨this.1, this.2.imp id (fun ⟨g', cap', cur', h1, h2, h3⟩ => ⟨g', cap', cur', h1, by omega, h3⟩)⟩
end Go.Proofs.Ytokddjohdodkmaa.Tm
