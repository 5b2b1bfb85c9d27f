/- Walks: the tape's Marks and Given. -/
import Derived.Test.YtokddjohdodkmaaHM
import Derived.WalkKit
import Derived.WalkSpells
import Derived.WalkLawsBesides
import Derived.Deep.QuietTactic
import Derived.BigQuiet
import Derived.Deep.Draws
import Derived.Deep.AppendLies
import Derived.Laws.OwnMore
import Derived.Laws.BytesArg
import Derived.Lib.Hide
import Derived.Deep.LoopGhost
import Derived.Deep.CutBlock
namespace Go.Proofs.Ytokddjohdodkmaa.Tm
open Go.RowKit Go.Proofs.Ytokddjohdodkmaa.Mw
set_option linter.unusedVariables false
set_option linter.unusedSimpArgs false

/-- The ending is a list of numbers in new memory; without mistakes each has a property; the tape alone has turned. -/
def TLi (P : Nat → Int → Prop) (m : Nat) (n : Int) (tp : Nat) (w : World) (e : Ending) (w' : World) : Prop := ∃ (l : List Int) (A : Option Addr) (c : Nat), l.length ≤ 21 ∧ RdI w' .i64 A l ∧ (∀ a, A = some a → w.heap.size ≤ a.block) ∧ (n ≤ 0 → l.length = m ∧ ∀ i, i < m → P i (gi l i)) ∧ e = .returned (.slice A l.length c) ∧ Tp w' tp ∧ w.grownBy w' (some tp)
def PM (l : List Pt) (i : Nat) (m : Int) : Prop := vp (gp l i) = true → perm (gp l i) m = true
def PG (l : List Pt) (i : Nat) (a : Int) : Prop := vp (gp l i) = true → inR (gp l i) a = true
theorem pm_a {l : List Pt} {i : Nat} (h : (gp l i).k = 2) : PM l i (gp l i).m := fun _ => by rw [perm_2 h]; exact decide_eq_true (.inr (.inr rfl))
theorem pm_b {l : List Pt} {i : Nat} {v : Int} (h : (gp l i).k = 2) (h1 : -1 ≤ v) (h2 : ¬ 0 < v) : PM l i v := fun _ => by rw [perm_2 h]; exact decide_eq_true (by omega)
theorem pm_c {l : List Pt} {i : Nat} {v : Int} (h : ¬ (gp l i).k = 2) (h1 : -1 ≤ v) (h2 : v ≤ 0 ∨ v ≤ (gp l i).m) : PM l i v := fun hv => by rw [perm_1 h]; have := (vp_iff _).1 hv; exact decide_eq_true (by omega)
theorem pg_a {l : List Pt} {i : Nat} {v : Int} (h1 : -2 ≤ v) (h2 : v ≤ -1 ∨ v ≤ (gp l i).n - 1) : PG l i v := fun hv => by
  have := (vp_iff _).1 hv
  exact decide_eq_true (fun hk => by omega)
theorem pg_b {l : List Pt} {i : Nat} {v : Int} (h : ¬ (gp l i).k = 2) : PG l i v := fun _ => decide_eq_true (fun hk => absurd hk h)
theorem pl_snoc {P : Nat → Int → Prop} {l : List Int} {v : Int} {j : Nat} (h : ∀ i, i < j → P i (gi l i)) (hl : l.length = j) (hv : P j v) : ∀ i, i < j + 1 → P i (gi (l ++ [v]) i) := fun i hi => by
  by_cases hlt : i < j
  · rw [gi_left l _ i (by omega)]; exact h i hlt
  · obtain rfl : i = l.length := by omega
    rw [gi_snoc, hl]; exact hv
set_option maxHeartbeats 8000000 in
set_option maxRecDepth 200000 in
theorem marks_any (tp : Nat) (p : Pa) (n : Int) (w : World) (ht : Tp w tp) (hp : PaOk w p) (hA : Away tp p.A) (hl20 : p.l.length ≤ 20) (hPL : PL p.l) (hn : n ≤ 1000) :
    Calls Try.prog 20 #[.pointer (some ⟨tp, 0, none⟩), pav p, .int .i64 n] w (TLi (PM p.l) p.l.length n tp w) := by
  obtain ⟨i0, hi0, hz0, hz1, hz2⟩ := info_parts infoInt
  have hlt := ht.lt
  show Calls Try.prog 20 #[.pointer (some ⟨tp, 0, none⟩), .agg #[.int .i64 p.c, .int .i64 p.v, .slice p.A p.l.length p.k], .int .i64 n] w _
  have hr0 := hp.rd
  generalize p.A = A at hr0 hA ⊢
  have HR := Lib.hid hr0
  have HAw := Lib.hid hA
  have HPL := Lib.hid hPL
  clear hr0 hA hPL hp
  have B0 : Bk (w.alloc (.cells #[.int .i64 p.c, .int .i64 p.v, .slice A p.l.length p.k] 27)) w.heap.size 27 #[.int .i64 p.c, .int .i64 p.v, .slice A p.l.length p.k] := by (repeat (first | ((with_reducible refine Bk.new' ?_); (first | rfl | (simp; done) | (simp; omega))) | with_reducible refine Bk.alloc ?_ _ | with_reducible refine Bk.drewN ?_ _ | with_reducible refine Bk.drew ?_ | with_reducible assumption))
  go_enter Try.func20, Try.ntmps20
  go_wp2_with fail
  go_loopw [7, 8] (fun x i wr => ∃ (j : Nat) (ms : List Int), j ≤ p.l.length ∧ i = .int .i64 j ∧ Hid (ms.length = j) ∧ Hid (∀ i, i < j → PM p.l i (gi ms i)) ∧ wr.ownsRow (w.heap.size + 1) 3 1 x ms.length (ms.map (Value.int .i64)) ∧ Bk wr w.heap.size 27 #[.int .i64 p.c, .int .i64 p.v, .slice A p.l.length p.k] ∧ Tp wr tp ∧ w.grownBy wr (some tp)) (fun _ i _ => p.l.length - (intOf i).toNat)
  case atStart => exact ⟨0, [], by omega, rfl, rfl, fun i hi => absurd hi (by omega), World.ownsRow_nil _ _ _ _, B0, ht.alloc _, gb_alloc (gb_refl _ _) _⟩
  case round =>
    clear B0 ht
    obtain ⟨j, ms, hj, rfl, Hml, Hms, hown, hB, ht3, hg3⟩ := hrel
    have hm20 : ms.length ≤ 20 := by have := Hml.out; omega
    have c2 : wr.cell? ⟨w.heap.size, 2, none⟩ = some (.slice A p.l.length p.k) := hB.cell 2
    have lb := hB.lt
    by_cases hjl : j < p.l.length
    · obtain ⟨b, off, rfl, hbl, a0, a1, a2, a3, a4, a5⟩ := (HR.out.grown hg3 HAw.out).at j hjl
      have hpm := (HPL.out j hjl).2.1
      have hpn := (HPL.out j hjl).2.2.2.2.1
      have q0 : (0 : Int) ≤ j := by omega
      have q1 : (j : Int) < p.l.length := by omega
      rcases Int.lt_trichotomy (gp p.l j).m 0 with k3 | k3 | k3
      · have y1 : decide ((gp p.l j).m < 0) = true := decide_eq_true k3
        go_wp2_with fail
        refine (range_any tp (-1) _ _ ht3 ?ra ?rb ?rc).mono ?_
        case ra => omega
        case rb => omega
        case rc => omega
        rintro e w5 ⟨v, hv, rfl, ht5, hg5'⟩
        have hv1 : -1 ≤ v := hv.1
        have hv2 : v ≤ 0 ∨ v ≤ (gp p.l j).m := by have := hv.2; omega
        have hown5 := own_away hown hg5' (by omega)
        have hB5 := hB.kept hg5' (by omega)
        have hg5 := gb_trans hg3 hg5'
        have hlt5 : w.heap.size < w5.heap.size := hB5.lt
        clear hown hB hg3 ht3 hg5' a0 a1 a2 a3 a4 a5 c2 hv hbl
        have c2 : w5.cell? ⟨w.heap.size, 2, none⟩ = some (.slice (some ⟨b, off, none⟩) p.l.length p.k) := hB5.cell 2
        obtain ⟨b', off', e', hbl, a0, a1, a2, a3, a4, a5⟩ := (HR.out.grown hg5 HAw.out).at j hjl
        cases e'
        by_cases hk2 : (gp p.l j).k = 2
        · have z1 : ((gp p.l j).k == 2) = true := beq_iff_eq.2 hk2
          by_cases hv0 : 0 < v
          · have zv : decide (0 < v) = true := decide_eq_true hv0
            have Hk2 := Lib.hid hk2
            clear hk2
            exfalso; omega
          · have zv : decide (0 < v) = false := decide_eq_false hv0
            have Hp := Lib.hid (pm_b hk2 hv1 hv0)
            clear hk2
            go_wp2_with (at_builtin; refine wpList_append_own _ rfl _ _ 22 rfl (w.heap.size + 1) 3 i0 (.int .i64 0) 1 8 Try.underlying22 hi0 hz0 hz1 hz2 rfl (by decide) _ _ _ rfl (hown5.alloc _) ⟨w5.heap.size, 0, none⟩ 1 1 [_] rfl rfl (one_cell _ _ _ _ rfl) ?c2 ?c3 ?c4 ?c5 ?_)
            case c2 => simp [Value.oneCell']
            case c3 => simp only [maxLen]; omega
            case c4 => omega
            case c5 => first | omega | (simp; omega)
            intro v6 w6 hown6 hgrow6 _
            have ht6 := tape_grown (ht5.alloc _) (hown5.alloc _) (by omega) hgrow6
            have hg6 := gb_grown (gb_alloc hg5 _) hgrow6 (fun k hk => by have := (hown5.lt k hk).1; omega)
            have hB6 := (hB5.alloc _).grown hgrow6 (fun e => by have := (hown5.lt _ e.symm).1; omega)
            have hown7 : w6.ownsRow (w.heap.size + 1) 3 1 v6 (ms ++ [v]).length ((ms ++ [v]).map (Value.int .i64)) := by
              rw [List.map_append, List.length_append]; exact hown6
            have Hnew := Lib.hid (pl_snoc Hms.out Hml.out (Hp.out))
            clear hown6 hgrow6 hown5 hg5 ht5 hB5
            go_wp2_with fail
            go_roundw
            case rel => exact ⟨j + 1, ms ++ [v], by omega, by go_num, by unfold Hid; rw [List.length_append, Hml.out]; rfl, Hnew, hown7, hB6, ht6, hg6⟩
            case measure => simp [intOf]; omega
        · have z1 : ((gp p.l j).k == 2) = false := beq_eq_false_iff_ne.2 hk2
          have Hp := Lib.hid (pm_c hk2 hv1 hv2)
          clear hk2
          go_wp2_with (at_builtin; refine wpList_append_own _ rfl _ _ 22 rfl (w.heap.size + 1) 3 i0 (.int .i64 0) 1 8 Try.underlying22 hi0 hz0 hz1 hz2 rfl (by decide) _ _ _ rfl (hown5.alloc _) ⟨w5.heap.size, 0, none⟩ 1 1 [_] rfl rfl (one_cell _ _ _ _ rfl) ?c2 ?c3 ?c4 ?c5 ?_)
          case c2 => simp [Value.oneCell']
          case c3 => simp only [maxLen]; omega
          case c4 => omega
          case c5 => first | omega | (simp; omega)
          intro v6 w6 hown6 hgrow6 _
          have ht6 := tape_grown (ht5.alloc _) (hown5.alloc _) (by omega) hgrow6
          have hg6 := gb_grown (gb_alloc hg5 _) hgrow6 (fun k hk => by have := (hown5.lt k hk).1; omega)
          have hB6 := (hB5.alloc _).grown hgrow6 (fun e => by have := (hown5.lt _ e.symm).1; omega)
          have hown7 : w6.ownsRow (w.heap.size + 1) 3 1 v6 (ms ++ [v]).length ((ms ++ [v]).map (Value.int .i64)) := by
            rw [List.map_append, List.length_append]; exact hown6
          have Hnew := Lib.hid (pl_snoc Hms.out Hml.out (Hp.out))
          clear hown6 hgrow6 hown5 hg5 ht5 hB5
          go_wp2_with fail
          go_roundw
          case rel => exact ⟨j + 1, ms ++ [v], by omega, by go_num, by unfold Hid; rw [List.length_append, Hml.out]; rfl, Hnew, hown7, hB6, ht6, hg6⟩
          case measure => simp [intOf]; omega
      · have y1 : decide ((gp p.l j).m < 0) = false := decide_eq_false (by omega)
        have y2 : decide (0 < (gp p.l j).m) = false := decide_eq_false (by omega)
        go_wp2_with fail
        refine (range_any tp (-1) _ _ ht3 ?ra ?rb ?rc).mono ?_
        case ra => omega
        case rb => omega
        case rc => omega
        rintro e w5 ⟨v, hv, rfl, ht5, hg5'⟩
        have hv1 : -1 ≤ v := hv.1
        have hv2 : v ≤ 0 ∨ v ≤ (gp p.l j).m := by have := hv.2; omega
        have hown5 := own_away hown hg5' (by omega)
        have hB5 := hB.kept hg5' (by omega)
        have hg5 := gb_trans hg3 hg5'
        have hlt5 : w.heap.size < w5.heap.size := hB5.lt
        clear hown hB hg3 ht3 hg5' a0 a1 a2 a3 a4 a5 c2 hv hbl
        have c2 : w5.cell? ⟨w.heap.size, 2, none⟩ = some (.slice (some ⟨b, off, none⟩) p.l.length p.k) := hB5.cell 2
        obtain ⟨b', off', e', hbl, a0, a1, a2, a3, a4, a5⟩ := (HR.out.grown hg5 HAw.out).at j hjl
        cases e'
        by_cases hk2 : (gp p.l j).k = 2
        · have z1 : ((gp p.l j).k == 2) = true := beq_iff_eq.2 hk2
          by_cases hv0 : 0 < v
          · have zv : decide (0 < v) = true := decide_eq_true hv0
            have Hk2 := Lib.hid hk2
            clear hk2
            exfalso; omega
          · have zv : decide (0 < v) = false := decide_eq_false hv0
            have Hp := Lib.hid (pm_b hk2 hv1 hv0)
            clear hk2
            go_wp2_with (at_builtin; refine wpList_append_own _ rfl _ _ 22 rfl (w.heap.size + 1) 3 i0 (.int .i64 0) 1 8 Try.underlying22 hi0 hz0 hz1 hz2 rfl (by decide) _ _ _ rfl (hown5.alloc _) ⟨w5.heap.size, 0, none⟩ 1 1 [_] rfl rfl (one_cell _ _ _ _ rfl) ?c2 ?c3 ?c4 ?c5 ?_)
            case c2 => simp [Value.oneCell']
            case c3 => simp only [maxLen]; omega
            case c4 => omega
            case c5 => first | omega | (simp; omega)
            intro v6 w6 hown6 hgrow6 _
            have ht6 := tape_grown (ht5.alloc _) (hown5.alloc _) (by omega) hgrow6
            have hg6 := gb_grown (gb_alloc hg5 _) hgrow6 (fun k hk => by have := (hown5.lt k hk).1; omega)
            have hB6 := (hB5.alloc _).grown hgrow6 (fun e => by have := (hown5.lt _ e.symm).1; omega)
            have hown7 : w6.ownsRow (w.heap.size + 1) 3 1 v6 (ms ++ [v]).length ((ms ++ [v]).map (Value.int .i64)) := by
              rw [List.map_append, List.length_append]; exact hown6
            have Hnew := Lib.hid (pl_snoc Hms.out Hml.out (Hp.out))
            clear hown6 hgrow6 hown5 hg5 ht5 hB5
            go_wp2_with fail
            go_roundw
            case rel => exact ⟨j + 1, ms ++ [v], by omega, by go_num, by unfold Hid; rw [List.length_append, Hml.out]; rfl, Hnew, hown7, hB6, ht6, hg6⟩
            case measure => simp [intOf]; omega
        · have z1 : ((gp p.l j).k == 2) = false := beq_eq_false_iff_ne.2 hk2
          have Hp := Lib.hid (pm_c hk2 hv1 hv2)
          clear hk2
          go_wp2_with (at_builtin; refine wpList_append_own _ rfl _ _ 22 rfl (w.heap.size + 1) 3 i0 (.int .i64 0) 1 8 Try.underlying22 hi0 hz0 hz1 hz2 rfl (by decide) _ _ _ rfl (hown5.alloc _) ⟨w5.heap.size, 0, none⟩ 1 1 [_] rfl rfl (one_cell _ _ _ _ rfl) ?c2 ?c3 ?c4 ?c5 ?_)
          case c2 => simp [Value.oneCell']
          case c3 => simp only [maxLen]; omega
          case c4 => omega
          case c5 => first | omega | (simp; omega)
          intro v6 w6 hown6 hgrow6 _
          have ht6 := tape_grown (ht5.alloc _) (hown5.alloc _) (by omega) hgrow6
          have hg6 := gb_grown (gb_alloc hg5 _) hgrow6 (fun k hk => by have := (hown5.lt k hk).1; omega)
          have hB6 := (hB5.alloc _).grown hgrow6 (fun e => by have := (hown5.lt _ e.symm).1; omega)
          have hown7 : w6.ownsRow (w.heap.size + 1) 3 1 v6 (ms ++ [v]).length ((ms ++ [v]).map (Value.int .i64)) := by
            rw [List.map_append, List.length_append]; exact hown6
          have Hnew := Lib.hid (pl_snoc Hms.out Hml.out (Hp.out))
          clear hown6 hgrow6 hown5 hg5 ht5 hB5
          go_wp2_with fail
          go_roundw
          case rel => exact ⟨j + 1, ms ++ [v], by omega, by go_num, by unfold Hid; rw [List.length_append, Hml.out]; rfl, Hnew, hown7, hB6, ht6, hg6⟩
          case measure => simp [intOf]; omega
      · have y1 : decide ((gp p.l j).m < 0) = false := decide_eq_false (by omega)
        have y2 : decide (0 < (gp p.l j).m) = true := decide_eq_true k3
        go_wp2_with fail
        refine (range_any tp (-1) _ _ ht3 ?ra ?rb ?rc).mono ?_
        case ra => omega
        case rb => omega
        case rc => omega
        rintro e w5 ⟨v, hv, rfl, ht5, hg5'⟩
        have hv1 : -1 ≤ v := hv.1
        have hv2 : v ≤ 0 ∨ v ≤ (gp p.l j).m := by have := hv.2; omega
        have hown5 := own_away hown hg5' (by omega)
        have hB5 := hB.kept hg5' (by omega)
        have hg5 := gb_trans hg3 hg5'
        have hlt5 : w.heap.size < w5.heap.size := hB5.lt
        clear hown hB hg3 ht3 hg5' a0 a1 a2 a3 a4 a5 c2 hv hbl
        have c2 : w5.cell? ⟨w.heap.size, 2, none⟩ = some (.slice (some ⟨b, off, none⟩) p.l.length p.k) := hB5.cell 2
        obtain ⟨b', off', e', hbl, a0, a1, a2, a3, a4, a5⟩ := (HR.out.grown hg5 HAw.out).at j hjl
        cases e'
        by_cases hk2 : (gp p.l j).k = 2
        · have z1 : ((gp p.l j).k == 2) = true := beq_iff_eq.2 hk2
          by_cases hv0 : 0 < v
          · have zv : decide (0 < v) = true := decide_eq_true hv0
            have Hk2 := Lib.hid hk2
            clear hk2
            go_wp2_with (at_builtin; refine wpList_append_own _ rfl _ _ 22 rfl (w.heap.size + 1) 3 i0 (.int .i64 0) 1 8 Try.underlying22 hi0 hz0 hz1 hz2 rfl (by decide) _ _ _ rfl (hown5.alloc _) ⟨w5.heap.size, 0, none⟩ 1 1 [_] rfl rfl (one_cell _ _ _ _ rfl) ?c2 ?c3 ?c4 ?c5 ?_)
            case c2 => simp [Value.oneCell']
            case c3 => simp only [maxLen]; omega
            case c4 => omega
            case c5 => first | omega | (simp; omega)
            intro v6 w6 hown6 hgrow6 _
            have ht6 := tape_grown (ht5.alloc _) (hown5.alloc _) (by omega) hgrow6
            have hg6 := gb_grown (gb_alloc hg5 _) hgrow6 (fun k hk => by have := (hown5.lt k hk).1; omega)
            have hB6 := (hB5.alloc _).grown hgrow6 (fun e => by have := (hown5.lt _ e.symm).1; omega)
            have hown7 : w6.ownsRow (w.heap.size + 1) 3 1 v6 (ms ++ [(gp p.l j).m]).length ((ms ++ [(gp p.l j).m]).map (Value.int .i64)) := by
              rw [List.map_append, List.length_append]; exact hown6
            have Hnew := Lib.hid (pl_snoc Hms.out Hml.out (pm_a Hk2.out))
            clear hown6 hgrow6 hown5 hg5 ht5 hB5
            go_wp2_with fail
            go_roundw
            case rel => exact ⟨j + 1, ms ++ [(gp p.l j).m], by omega, by go_num, by unfold Hid; rw [List.length_append, Hml.out]; rfl, Hnew, hown7, hB6, ht6, hg6⟩
            case measure => simp [intOf]; omega
          · have zv : decide (0 < v) = false := decide_eq_false hv0
            have Hp := Lib.hid (pm_b hk2 hv1 hv0)
            clear hk2
            go_wp2_with (at_builtin; refine wpList_append_own _ rfl _ _ 22 rfl (w.heap.size + 1) 3 i0 (.int .i64 0) 1 8 Try.underlying22 hi0 hz0 hz1 hz2 rfl (by decide) _ _ _ rfl (hown5.alloc _) ⟨w5.heap.size, 0, none⟩ 1 1 [_] rfl rfl (one_cell _ _ _ _ rfl) ?c2 ?c3 ?c4 ?c5 ?_)
            case c2 => simp [Value.oneCell']
            case c3 => simp only [maxLen]; omega
            case c4 => omega
            case c5 => first | omega | (simp; omega)
            intro v6 w6 hown6 hgrow6 _
            have ht6 := tape_grown (ht5.alloc _) (hown5.alloc _) (by omega) hgrow6
            have hg6 := gb_grown (gb_alloc hg5 _) hgrow6 (fun k hk => by have := (hown5.lt k hk).1; omega)
            have hB6 := (hB5.alloc _).grown hgrow6 (fun e => by have := (hown5.lt _ e.symm).1; omega)
            have hown7 : w6.ownsRow (w.heap.size + 1) 3 1 v6 (ms ++ [v]).length ((ms ++ [v]).map (Value.int .i64)) := by
              rw [List.map_append, List.length_append]; exact hown6
            have Hnew := Lib.hid (pl_snoc Hms.out Hml.out (Hp.out))
            clear hown6 hgrow6 hown5 hg5 ht5 hB5
            go_wp2_with fail
            go_roundw
            case rel => exact ⟨j + 1, ms ++ [v], by omega, by go_num, by unfold Hid; rw [List.length_append, Hml.out]; rfl, Hnew, hown7, hB6, ht6, hg6⟩
            case measure => simp [intOf]; omega
        · have z1 : ((gp p.l j).k == 2) = false := beq_eq_false_iff_ne.2 hk2
          have Hp := Lib.hid (pm_c hk2 hv1 hv2)
          clear hk2
          go_wp2_with (at_builtin; refine wpList_append_own _ rfl _ _ 22 rfl (w.heap.size + 1) 3 i0 (.int .i64 0) 1 8 Try.underlying22 hi0 hz0 hz1 hz2 rfl (by decide) _ _ _ rfl (hown5.alloc _) ⟨w5.heap.size, 0, none⟩ 1 1 [_] rfl rfl (one_cell _ _ _ _ rfl) ?c2 ?c3 ?c4 ?c5 ?_)
          case c2 => simp [Value.oneCell']
          case c3 => simp only [maxLen]; omega
          case c4 => omega
          case c5 => first | omega | (simp; omega)
          intro v6 w6 hown6 hgrow6 _
          have ht6 := tape_grown (ht5.alloc _) (hown5.alloc _) (by omega) hgrow6
          have hg6 := gb_grown (gb_alloc hg5 _) hgrow6 (fun k hk => by have := (hown5.lt k hk).1; omega)
          have hB6 := (hB5.alloc _).grown hgrow6 (fun e => by have := (hown5.lt _ e.symm).1; omega)
          have hown7 : w6.ownsRow (w.heap.size + 1) 3 1 v6 (ms ++ [v]).length ((ms ++ [v]).map (Value.int .i64)) := by
            rw [List.map_append, List.length_append]; exact hown6
          have Hnew := Lib.hid (pl_snoc Hms.out Hml.out (Hp.out))
          clear hown6 hgrow6 hown5 hg5 ht5 hB5
          go_wp2_with fail
          go_roundw
          case rel => exact ⟨j + 1, ms ++ [v], by omega, by go_num, by unfold Hid; rw [List.length_append, Hml.out]; rfl, Hnew, hown7, hB6, ht6, hg6⟩
          case measure => simp [intOf]; omega
    · have hjn : j = p.l.length := by omega
      have zj : decide (j < p.l.length) = false := decide_eq_false hjl
      have zj' : decide ((j : Int) < (p.l.length : Int)) = false := decide_eq_false (by omega)
      have hgood : ms.length = p.l.length ∧ ∀ i, i < p.l.length → PM p.l i (gi ms i) := by rw [← hjn]; exact ⟨Hml.out, Hms.out⟩
      have Hgood := Lib.hid hgood
      clear hgood hjn hjl
      by_cases hn0 : n ≤ 0
      · have zn : decide ((0 : Int) < n) = false := decide_eq_false (by omega)
        obtain ⟨A9, c9, rfl, hr9, ha9⟩ := own_ints hown
        clear hown hB
        go_wp2_with fail
        go_ret
        exact ⟨ms, A9, c9, by omega, hr9, fun a ha => by have := (ha9 a ha).1; omega, fun _ => Hgood.out, rfl, ht3, hg3⟩
      · have zn : decide ((0 : Int) < n) = true := decide_eq_true (by omega)
        go_wp2_with fail
        refine (one_any tp n _ ht3 (by omega) (by omega)).mono ?_
        rintro e w4 ⟨y, rfl, ht4, hg4⟩
        have hown4 := own_away hown hg4 (by omega)
        have hg5 := gb_trans hg3 hg4
        clear hown hB hg3 ht3 hg4 c2
        cases y
        · obtain ⟨A9, c9, rfl, hr9, ha9⟩ := own_ints hown4
          clear hown4
          go_wp2_with fail
          go_ret
          exact ⟨ms, A9, c9, by omega, hr9, fun a ha => by have := (ha9 a ha).1; omega, fun h => absurd h (by omega), rfl, ht4, hg5⟩
        go_wp2_with fail
        refine (next_any tp 2 _ ht4 (by omega) (by omega)).mono ?_
        rintro e w5 ⟨z, hz, rfl, ht5, hg6⟩
        have hown5 := own_away hown4 hg6 (by omega)
        have hg7 := gb_trans hg5 hg6
        have hz7 := hg7.size
        clear hown4 hg5 hg6 ht4
        by_cases hzz : z = 0 ∨ ms.length = 0
        · have Hend := Lib.hid (show ∀ (v9 : Value) (w9 : World), w9.ownsRow (w.heap.size + 1) 3 1 v9 (ms.length + 1) (ms.map (Value.int .i64) ++ [.int .i64 0]) → (w5.alloc (.cells #[.int .i64 0] 3)).grownBy w9 _ → TLi (PM p.l) p.l.length n tp w (.returned v9) w9 from fun v9 w9 ho hg => by
            have ho' : w9.ownsRow (w.heap.size + 1) 3 1 v9 (ms ++ [(0 : Int)]).length ((ms ++ [(0 : Int)]).map (Value.int .i64)) := by rw [List.map_append, List.length_append]; exact ho
            obtain ⟨A9, c9, rfl, hr9, ha9⟩ := own_ints ho'
            exact ⟨ms ++ [0], A9, c9, by simp; omega, hr9, fun a ha => by have := (ha9 a ha).1; omega, fun h => absurd h (by omega), rfl, tape_grown (ht5.alloc _) (hown5.alloc _) (by omega) hg, gb_grown (gb_alloc hg7 _) hg (fun k hk => by have := (hown5.lt k hk).1; omega)⟩)
          rcases Decidable.em (z = 0) with h0 | h0
          · have zz : (z == 0) = true := beq_iff_eq.2 h0
            clear h0 hzz
            go_wp2_with (at_builtin; refine wpList_append_own _ rfl _ _ 22 rfl (w.heap.size + 1) 3 i0 (.int .i64 0) 1 8 Try.underlying22 hi0 hz0 hz1 hz2 rfl (by decide) _ _ _ rfl (hown5.alloc _) ⟨w5.heap.size, 0, none⟩ 1 1 [_] rfl rfl (one_cell _ _ _ _ rfl) ?c2 ?c3 ?c4 ?c5 ?_)
            case c2 => simp [Value.oneCell']
            case c3 => simp only [maxLen]; omega
            case c4 => omega
            case c5 => first | omega | (simp; omega)
            intro v9 w9 hown9 hgrow9 _
            have Hr := Lib.hid (Hend.out v9 w9 hown9 hgrow9)
            clear Hend hown9 hgrow9 hown5
            go_wp2_with fail
            go_ret
            exact Hr.out
          · have zz : (z == 0) = false := beq_eq_false_iff_ne.2 h0
            have hm0 : ms.length = 0 := by rcases hzz with h | h; exact absurd h h0; exact h
            have zm : ((ms.length : Int) == 0) = true := beq_iff_eq.2 (by omega)
            obtain rfl := List.length_eq_zero_iff.1 hm0
            obtain ⟨A9, c9, rfl, -, -⟩ := own_ints hown5
            clear h0 hzz hm0
            go_wp2_with (at_builtin; refine wpList_append_own _ rfl _ _ 22 rfl (w.heap.size + 1) 3 i0 (.int .i64 0) 1 8 Try.underlying22 hi0 hz0 hz1 hz2 rfl (by decide) _ 0 [] rfl (hown5.alloc _) ⟨w5.heap.size, 0, none⟩ 1 1 [_] rfl rfl (one_cell _ _ _ _ rfl) ?c2 ?c3 ?c4 ?c5 ?_)
            case c2 => simp [Value.oneCell']
            case c3 => simp only [maxLen]; omega
            case c4 => omega
            case c5 => first | omega | (simp; omega)
            intro v9 w9 hown9 hgrow9 _
            have Hr := Lib.hid (Hend.out v9 w9 hown9 hgrow9)
            clear Hend hown9 hgrow9 hown5
            go_wp2_with fail
            go_ret
            exact Hr.out
        · have h0 : ¬ z = 0 := fun h => hzz (.inl h)
          have hm0 : ¬ ms.length = 0 := fun h => hzz (.inr h)
          have zz : (z == 0) = false := beq_eq_false_iff_ne.2 h0
          have zm : ((ms.length : Int) == 0) = false := beq_eq_false_iff_ne.2 (by omega)
          have zm' : (ms.length == 0) = false := beq_eq_false_iff_ne.2 hm0
          have zm2 : ¬ ms = [] := fun e => hm0 (by rw [e]; rfl)
          clear h0 hzz
          obtain ⟨g9, c9, rfl, -, -⟩ := hown5.form (by omega)
          go_wp2_with fail
          refine (next_any tp (ms.length : Int) _ ht5 (by omega) (by omega)).mono ?_
          rintro e w6 ⟨m0, hm1, rfl, ht6, hg8⟩
          have hown6 := own_away hown5 hg8 (by omega)
          have hg9 := gb_trans hg7 hg8
          obtain ⟨m, rfl⟩ := Int.eq_ofNat_of_zero_le hm1.1
          have hm2 : m < ms.length := by omega
          have q0 : (0 : Int) ≤ m := by omega
          have q1 : (m : Int) < ms.length := by omega
          clear hown5 hg7 hg8 ht5 hm1
          go_wp2_with fail
          refine (pickl tp [-2, -3, 1, 2, 40, 41] 6 w6 ht6 _ _ rfl (by decide) (by decide)).mono ?_
          rintro e w7 ⟨u, hu, rfl, ht7, hg10⟩
          have hown7 := own_away (hown6.alloc _) hg10 (by omega)
          have hg11 := gb_trans (gb_alloc hg9 _) hg10
          have lr := (hown7.lt g9 rfl).1
          have x0 : w7.cell? ⟨g9, m, none⟩ = some (.int .i64 (gi ms m)) := by rw [hown7.cellAt m (by omega), List.getElem?_map, gi_lt ms m hm2]; rfl
          have x1 : w7.frozen? ⟨g9, m, none⟩ = false := hown7.frozenAt m
          have hrd := rdi_set (RdI.own hown7) m hm2 u
          rw [Nat.zero_add] at hrd
          have Hrd := Lib.hid hrd
          clear hrd hown6 hown7 hg9 hg10 ht6 hu
          go_wp2_with fail
          go_ret
          exact ⟨ms.set m u, some ⟨g9, 0, none⟩, c9, by simp; omega, Hrd.out, fun a ha => by cases ha; show w.heap.size ≤ g9; omega, fun h => absurd h (by omega), by rw [List.length_set]; rfl, ht7.far (p := ⟨g9, m, none⟩) (by show tp < g9; omega) _, gb_set hg11 (p := ⟨g9, m, none⟩) (.inr (by show w.heap.size ≤ g9; omega)) _⟩
set_option maxHeartbeats 8000000 in
set_option maxRecDepth 200000 in
theorem given_any (tp : Nat) (p : Pa) (n : Int) (w : World) (ht : Tp w tp) (hp : PaOk w p) (hA : Away tp p.A) (hl20 : p.l.length ≤ 20) (hPL : PL p.l) (hn : n ≤ 1000) :
    Calls Try.prog 15 #[.pointer (some ⟨tp, 0, none⟩), pav p, .int .i64 n] w (TLi (PG p.l) p.l.length n tp w) := by
  obtain ⟨i0, hi0, hz0, hz1, hz2⟩ := info_parts infoInt
  have hlt := ht.lt
  show Calls Try.prog 15 #[.pointer (some ⟨tp, 0, none⟩), .agg #[.int .i64 p.c, .int .i64 p.v, .slice p.A p.l.length p.k], .int .i64 n] w _
  have hr0 := hp.rd
  generalize p.A = A at hr0 hA ⊢
  have HR := Lib.hid hr0
  have HAw := Lib.hid hA
  have HPL := Lib.hid hPL
  clear hr0 hA hPL hp
  have B0 : Bk (w.alloc (.cells #[.int .i64 p.c, .int .i64 p.v, .slice A p.l.length p.k] 27)) w.heap.size 27 #[.int .i64 p.c, .int .i64 p.v, .slice A p.l.length p.k] := by (repeat (first | ((with_reducible refine Bk.new' ?_); (first | rfl | (simp; done) | (simp; omega))) | with_reducible refine Bk.alloc ?_ _ | with_reducible refine Bk.drewN ?_ _ | with_reducible refine Bk.drew ?_ | with_reducible assumption))
  go_enter Try.func15, Try.ntmps15
  go_wp2_with fail
  go_loopw [7, 8] (fun x i wr => ∃ (j : Nat) (ms : List Int), j ≤ p.l.length ∧ i = .int .i64 j ∧ Hid (ms.length = j) ∧ Hid (∀ i, i < j → PG p.l i (gi ms i)) ∧ wr.ownsRow (w.heap.size + 1) 3 1 x ms.length (ms.map (Value.int .i64)) ∧ Bk wr w.heap.size 27 #[.int .i64 p.c, .int .i64 p.v, .slice A p.l.length p.k] ∧ Tp wr tp ∧ w.grownBy wr (some tp)) (fun _ i _ => p.l.length - (intOf i).toNat)
  case atStart => exact ⟨0, [], by omega, rfl, rfl, fun i hi => absurd hi (by omega), World.ownsRow_nil _ _ _ _, B0, ht.alloc _, gb_alloc (gb_refl _ _) _⟩
  case round =>
    clear B0 ht
    obtain ⟨j, ms, hj, rfl, Hml, Hms, hown, hB, ht3, hg3⟩ := hrel
    have hm20 : ms.length ≤ 20 := by have := Hml.out; omega
    have c2 : wr.cell? ⟨w.heap.size, 2, none⟩ = some (.slice A p.l.length p.k) := hB.cell 2
    have lb := hB.lt
    by_cases hjl : j < p.l.length
    · obtain ⟨b, off, rfl, hbl, a0, a1, a2, a3, a4, a5⟩ := (HR.out.grown hg3 HAw.out).at j hjl
      have hpm := (HPL.out j hjl).2.1
      have hpn := (HPL.out j hjl).2.2.2.2.1
      have q0 : (0 : Int) ≤ j := by omega
      have q1 : (j : Int) < p.l.length := by omega
      rcases Int.lt_trichotomy ((gp p.l j).n - 1) (-1) with k3 | k3 | k3
      · have y1 : decide ((gp p.l j).n - 1 < -1) = true := decide_eq_true k3
        go_wp2_with fail
        refine (range_any tp (-2) _ _ ht3 ?ra ?rb ?rc).mono ?_
        case ra => omega
        case rb => omega
        case rc => omega
        rintro e w5 ⟨v, hv, rfl, ht5, hg5'⟩
        have hv1 : -2 ≤ v := hv.1
        have hv2 : v ≤ -1 ∨ v ≤ (gp p.l j).n - 1 := by have := hv.2; omega
        have hown5 := own_away hown hg5' (by omega)
        have hB5 := hB.kept hg5' (by omega)
        have hg5 := gb_trans hg3 hg5'
        have hlt5 : w.heap.size < w5.heap.size := hB5.lt
        clear hown hB hg3 ht3 hg5' a0 a1 a2 a3 a4 a5 c2 hv hbl
        have c2 : w5.cell? ⟨w.heap.size, 2, none⟩ = some (.slice (some ⟨b, off, none⟩) p.l.length p.k) := hB5.cell 2
        obtain ⟨b', off', e', hbl, a0, a1, a2, a3, a4, a5⟩ := (HR.out.grown hg5 HAw.out).at j hjl
        cases e'
        by_cases hk2 : (gp p.l j).k = 2
        · have z1 : ((gp p.l j).k != 2) = false := by simp [hk2]
          have Hp := Lib.hid (pg_a (l := p.l) (i := j) hv1 hv2)
          clear hk2
          go_wp2_with (at_builtin; refine wpList_append_own _ rfl _ _ 22 rfl (w.heap.size + 1) 3 i0 (.int .i64 0) 1 8 Try.underlying22 hi0 hz0 hz1 hz2 rfl (by decide) _ _ _ rfl (hown5.alloc _) ⟨w5.heap.size, 0, none⟩ 1 1 [_] rfl rfl (one_cell _ _ _ _ rfl) ?c2 ?c3 ?c4 ?c5 ?_)
          case c2 => simp [Value.oneCell']
          case c3 => simp only [maxLen]; omega
          case c4 => omega
          case c5 => first | omega | (simp; omega)
          intro v6 w6 hown6 hgrow6 _
          have ht6 := tape_grown (ht5.alloc _) (hown5.alloc _) (by omega) hgrow6
          have hg6 := gb_grown (gb_alloc hg5 _) hgrow6 (fun k hk => by have := (hown5.lt k hk).1; omega)
          have hB6 := (hB5.alloc _).grown hgrow6 (fun e => by have := (hown5.lt _ e.symm).1; omega)
          have hown7 : w6.ownsRow (w.heap.size + 1) 3 1 v6 (ms ++ [v]).length ((ms ++ [v]).map (Value.int .i64)) := by
            rw [List.map_append, List.length_append]; exact hown6
          have Hnew := Lib.hid (pl_snoc Hms.out Hml.out (Hp.out))
          clear hown6 hgrow6 hown5 hg5 ht5 hB5
          go_wp2_with fail
          go_roundw
          case rel => exact ⟨j + 1, ms ++ [v], by omega, by go_num, by unfold Hid; rw [List.length_append, Hml.out]; rfl, Hnew, hown7, hB6, ht6, hg6⟩
          case measure => simp [intOf]; omega
        · have z1 : ((gp p.l j).k != 2) = true := bne_iff_ne.2 hk2
          have Hk2 := Lib.hid hk2
          clear hk2
          go_wp2_with fail
          refine (pickl tp [-1, -1, 7, -9] 4 w5 ht5 _ _ rfl (by decide) (by decide)).mono ?_
          rintro e w5b ⟨v', hv', rfl, ht5b, hg5b⟩
          have hown5b := own_away (hown5.alloc _) hg5b (by omega)
          have hB5b := (hB5.alloc _).kept hg5b (by omega)
          have hg5c := gb_trans (gb_alloc hg5 _) hg5b
          have hlt5b : w.heap.size < w5b.heap.size := hB5b.lt
          clear hown5 hB5 hg5 ht5 hg5b c2 a0 a1 a2 a3 a4 a5 hbl hlt5 hv'
          go_wp2_with (at_builtin; refine wpList_append_own _ rfl _ _ 22 rfl (w.heap.size + 1) 3 i0 (.int .i64 0) 1 8 Try.underlying22 hi0 hz0 hz1 hz2 rfl (by decide) _ _ _ rfl (hown5b.alloc _) ⟨w5b.heap.size, 0, none⟩ 1 1 [_] rfl rfl (one_cell _ _ _ _ rfl) ?c2 ?c3 ?c4 ?c5 ?_)
          case c2 => simp [Value.oneCell']
          case c3 => simp only [maxLen]; omega
          case c4 => omega
          case c5 => first | omega | (simp; omega)
          intro v6 w6 hown6 hgrow6 _
          have ht6 := tape_grown (ht5b.alloc _) (hown5b.alloc _) (by omega) hgrow6
          have hg6 := gb_grown (gb_alloc hg5c _) hgrow6 (fun k hk => by have := (hown5b.lt k hk).1; omega)
          have hB6 := (hB5b.alloc _).grown hgrow6 (fun e => by have := (hown5b.lt _ e.symm).1; omega)
          have hown7 : w6.ownsRow (w.heap.size + 1) 3 1 v6 (ms ++ [v']).length ((ms ++ [v']).map (Value.int .i64)) := by
            rw [List.map_append, List.length_append]; exact hown6
          have Hnew := Lib.hid (pl_snoc Hms.out Hml.out (pg_b (v := v') Hk2.out))
          clear hown6 hgrow6 hown5b hg5c ht5b hB5b
          go_wp2_with fail
          go_roundw
          case rel => exact ⟨j + 1, ms ++ [v'], by omega, by go_num, by unfold Hid; rw [List.length_append, Hml.out]; rfl, Hnew, hown7, hB6, ht6, hg6⟩
          case measure => simp [intOf]; omega
      · have y1 : decide ((gp p.l j).n - 1 < -1) = false := decide_eq_false (by omega)
        have y2 : decide (-1 < (gp p.l j).n - 1) = false := decide_eq_false (by omega)
        go_wp2_with fail
        refine (range_any tp (-2) _ _ ht3 ?ra ?rb ?rc).mono ?_
        case ra => omega
        case rb => omega
        case rc => omega
        rintro e w5 ⟨v, hv, rfl, ht5, hg5'⟩
        have hv1 : -2 ≤ v := hv.1
        have hv2 : v ≤ -1 ∨ v ≤ (gp p.l j).n - 1 := by have := hv.2; omega
        have hown5 := own_away hown hg5' (by omega)
        have hB5 := hB.kept hg5' (by omega)
        have hg5 := gb_trans hg3 hg5'
        have hlt5 : w.heap.size < w5.heap.size := hB5.lt
        clear hown hB hg3 ht3 hg5' a0 a1 a2 a3 a4 a5 c2 hv hbl
        have c2 : w5.cell? ⟨w.heap.size, 2, none⟩ = some (.slice (some ⟨b, off, none⟩) p.l.length p.k) := hB5.cell 2
        obtain ⟨b', off', e', hbl, a0, a1, a2, a3, a4, a5⟩ := (HR.out.grown hg5 HAw.out).at j hjl
        cases e'
        by_cases hk2 : (gp p.l j).k = 2
        · have z1 : ((gp p.l j).k != 2) = false := by simp [hk2]
          have Hp := Lib.hid (pg_a (l := p.l) (i := j) hv1 hv2)
          clear hk2
          go_wp2_with (at_builtin; refine wpList_append_own _ rfl _ _ 22 rfl (w.heap.size + 1) 3 i0 (.int .i64 0) 1 8 Try.underlying22 hi0 hz0 hz1 hz2 rfl (by decide) _ _ _ rfl (hown5.alloc _) ⟨w5.heap.size, 0, none⟩ 1 1 [_] rfl rfl (one_cell _ _ _ _ rfl) ?c2 ?c3 ?c4 ?c5 ?_)
          case c2 => simp [Value.oneCell']
          case c3 => simp only [maxLen]; omega
          case c4 => omega
          case c5 => first | omega | (simp; omega)
          intro v6 w6 hown6 hgrow6 _
          have ht6 := tape_grown (ht5.alloc _) (hown5.alloc _) (by omega) hgrow6
          have hg6 := gb_grown (gb_alloc hg5 _) hgrow6 (fun k hk => by have := (hown5.lt k hk).1; omega)
          have hB6 := (hB5.alloc _).grown hgrow6 (fun e => by have := (hown5.lt _ e.symm).1; omega)
          have hown7 : w6.ownsRow (w.heap.size + 1) 3 1 v6 (ms ++ [v]).length ((ms ++ [v]).map (Value.int .i64)) := by
            rw [List.map_append, List.length_append]; exact hown6
          have Hnew := Lib.hid (pl_snoc Hms.out Hml.out (Hp.out))
          clear hown6 hgrow6 hown5 hg5 ht5 hB5
          go_wp2_with fail
          go_roundw
          case rel => exact ⟨j + 1, ms ++ [v], by omega, by go_num, by unfold Hid; rw [List.length_append, Hml.out]; rfl, Hnew, hown7, hB6, ht6, hg6⟩
          case measure => simp [intOf]; omega
        · have z1 : ((gp p.l j).k != 2) = true := bne_iff_ne.2 hk2
          have Hk2 := Lib.hid hk2
          clear hk2
          go_wp2_with fail
          refine (pickl tp [-1, -1, 7, -9] 4 w5 ht5 _ _ rfl (by decide) (by decide)).mono ?_
          rintro e w5b ⟨v', hv', rfl, ht5b, hg5b⟩
          have hown5b := own_away (hown5.alloc _) hg5b (by omega)
          have hB5b := (hB5.alloc _).kept hg5b (by omega)
          have hg5c := gb_trans (gb_alloc hg5 _) hg5b
          have hlt5b : w.heap.size < w5b.heap.size := hB5b.lt
          clear hown5 hB5 hg5 ht5 hg5b c2 a0 a1 a2 a3 a4 a5 hbl hlt5 hv'
          go_wp2_with (at_builtin; refine wpList_append_own _ rfl _ _ 22 rfl (w.heap.size + 1) 3 i0 (.int .i64 0) 1 8 Try.underlying22 hi0 hz0 hz1 hz2 rfl (by decide) _ _ _ rfl (hown5b.alloc _) ⟨w5b.heap.size, 0, none⟩ 1 1 [_] rfl rfl (one_cell _ _ _ _ rfl) ?c2 ?c3 ?c4 ?c5 ?_)
          case c2 => simp [Value.oneCell']
          case c3 => simp only [maxLen]; omega
          case c4 => omega
          case c5 => first | omega | (simp; omega)
          intro v6 w6 hown6 hgrow6 _
          have ht6 := tape_grown (ht5b.alloc _) (hown5b.alloc _) (by omega) hgrow6
          have hg6 := gb_grown (gb_alloc hg5c _) hgrow6 (fun k hk => by have := (hown5b.lt k hk).1; omega)
          have hB6 := (hB5b.alloc _).grown hgrow6 (fun e => by have := (hown5b.lt _ e.symm).1; omega)
          have hown7 : w6.ownsRow (w.heap.size + 1) 3 1 v6 (ms ++ [v']).length ((ms ++ [v']).map (Value.int .i64)) := by
            rw [List.map_append, List.length_append]; exact hown6
          have Hnew := Lib.hid (pl_snoc Hms.out Hml.out (pg_b (v := v') Hk2.out))
          clear hown6 hgrow6 hown5b hg5c ht5b hB5b
          go_wp2_with fail
          go_roundw
          case rel => exact ⟨j + 1, ms ++ [v'], by omega, by go_num, by unfold Hid; rw [List.length_append, Hml.out]; rfl, Hnew, hown7, hB6, ht6, hg6⟩
          case measure => simp [intOf]; omega
      · have y1 : decide ((gp p.l j).n - 1 < -1) = false := decide_eq_false (by omega)
        have y2 : decide (-1 < (gp p.l j).n - 1) = true := decide_eq_true k3
        go_wp2_with fail
        refine (range_any tp (-2) _ _ ht3 ?ra ?rb ?rc).mono ?_
        case ra => omega
        case rb => omega
        case rc => omega
        rintro e w5 ⟨v, hv, rfl, ht5, hg5'⟩
        have hv1 : -2 ≤ v := hv.1
        have hv2 : v ≤ -1 ∨ v ≤ (gp p.l j).n - 1 := by have := hv.2; omega
        have hown5 := own_away hown hg5' (by omega)
        have hB5 := hB.kept hg5' (by omega)
        have hg5 := gb_trans hg3 hg5'
        have hlt5 : w.heap.size < w5.heap.size := hB5.lt
        clear hown hB hg3 ht3 hg5' a0 a1 a2 a3 a4 a5 c2 hv hbl
        have c2 : w5.cell? ⟨w.heap.size, 2, none⟩ = some (.slice (some ⟨b, off, none⟩) p.l.length p.k) := hB5.cell 2
        obtain ⟨b', off', e', hbl, a0, a1, a2, a3, a4, a5⟩ := (HR.out.grown hg5 HAw.out).at j hjl
        cases e'
        by_cases hk2 : (gp p.l j).k = 2
        · have z1 : ((gp p.l j).k != 2) = false := by simp [hk2]
          have Hp := Lib.hid (pg_a (l := p.l) (i := j) hv1 hv2)
          clear hk2
          go_wp2_with (at_builtin; refine wpList_append_own _ rfl _ _ 22 rfl (w.heap.size + 1) 3 i0 (.int .i64 0) 1 8 Try.underlying22 hi0 hz0 hz1 hz2 rfl (by decide) _ _ _ rfl (hown5.alloc _) ⟨w5.heap.size, 0, none⟩ 1 1 [_] rfl rfl (one_cell _ _ _ _ rfl) ?c2 ?c3 ?c4 ?c5 ?_)
          case c2 => simp [Value.oneCell']
          case c3 => simp only [maxLen]; omega
          case c4 => omega
          case c5 => first | omega | (simp; omega)
          intro v6 w6 hown6 hgrow6 _
          have ht6 := tape_grown (ht5.alloc _) (hown5.alloc _) (by omega) hgrow6
          have hg6 := gb_grown (gb_alloc hg5 _) hgrow6 (fun k hk => by have := (hown5.lt k hk).1; omega)
          have hB6 := (hB5.alloc _).grown hgrow6 (fun e => by have := (hown5.lt _ e.symm).1; omega)
          have hown7 : w6.ownsRow (w.heap.size + 1) 3 1 v6 (ms ++ [v]).length ((ms ++ [v]).map (Value.int .i64)) := by
            rw [List.map_append, List.length_append]; exact hown6
          have Hnew := Lib.hid (pl_snoc Hms.out Hml.out (Hp.out))
          clear hown6 hgrow6 hown5 hg5 ht5 hB5
          go_wp2_with fail
          go_roundw
          case rel => exact ⟨j + 1, ms ++ [v], by omega, by go_num, by unfold Hid; rw [List.length_append, Hml.out]; rfl, Hnew, hown7, hB6, ht6, hg6⟩
          case measure => simp [intOf]; omega
        · have z1 : ((gp p.l j).k != 2) = true := bne_iff_ne.2 hk2
          have Hk2 := Lib.hid hk2
          clear hk2
          go_wp2_with fail
          refine (pickl tp [-1, -1, 7, -9] 4 w5 ht5 _ _ rfl (by decide) (by decide)).mono ?_
          rintro e w5b ⟨v', hv', rfl, ht5b, hg5b⟩
          have hown5b := own_away (hown5.alloc _) hg5b (by omega)
          have hB5b := (hB5.alloc _).kept hg5b (by omega)
          have hg5c := gb_trans (gb_alloc hg5 _) hg5b
          have hlt5b : w.heap.size < w5b.heap.size := hB5b.lt
          clear hown5 hB5 hg5 ht5 hg5b c2 a0 a1 a2 a3 a4 a5 hbl hlt5 hv'
          go_wp2_with (at_builtin; refine wpList_append_own _ rfl _ _ 22 rfl (w.heap.size + 1) 3 i0 (.int .i64 0) 1 8 Try.underlying22 hi0 hz0 hz1 hz2 rfl (by decide) _ _ _ rfl (hown5b.alloc _) ⟨w5b.heap.size, 0, none⟩ 1 1 [_] rfl rfl (one_cell _ _ _ _ rfl) ?c2 ?c3 ?c4 ?c5 ?_)
          case c2 => simp [Value.oneCell']
          case c3 => simp only [maxLen]; omega
          case c4 => omega
          case c5 => first | omega | (simp; omega)
          intro v6 w6 hown6 hgrow6 _
          have ht6 := tape_grown (ht5b.alloc _) (hown5b.alloc _) (by omega) hgrow6
          have hg6 := gb_grown (gb_alloc hg5c _) hgrow6 (fun k hk => by have := (hown5b.lt k hk).1; omega)
          have hB6 := (hB5b.alloc _).grown hgrow6 (fun e => by have := (hown5b.lt _ e.symm).1; omega)
          have hown7 : w6.ownsRow (w.heap.size + 1) 3 1 v6 (ms ++ [v']).length ((ms ++ [v']).map (Value.int .i64)) := by
            rw [List.map_append, List.length_append]; exact hown6
          have Hnew := Lib.hid (pl_snoc Hms.out Hml.out (pg_b (v := v') Hk2.out))
          clear hown6 hgrow6 hown5b hg5c ht5b hB5b
          go_wp2_with fail
          go_roundw
          case rel => exact ⟨j + 1, ms ++ [v'], by omega, by go_num, by unfold Hid; rw [List.length_append, Hml.out]; rfl, Hnew, hown7, hB6, ht6, hg6⟩
          case measure => simp [intOf]; omega
    · have hjn : j = p.l.length := by omega
      have zj : decide (j < p.l.length) = false := decide_eq_false hjl
      have zj' : decide ((j : Int) < (p.l.length : Int)) = false := decide_eq_false (by omega)
      have hgood : ms.length = p.l.length ∧ ∀ i, i < p.l.length → PG p.l i (gi ms i) := by rw [← hjn]; exact ⟨Hml.out, Hms.out⟩
      have Hgood := Lib.hid hgood
      clear hgood hjn hjl
      by_cases hn0 : n ≤ 0
      · have zn : decide ((0 : Int) < n) = false := decide_eq_false (by omega)
        obtain ⟨A9, c9, rfl, hr9, ha9⟩ := own_ints hown
        clear hown hB
        go_wp2_with fail
        go_ret
        exact ⟨ms, A9, c9, by omega, hr9, fun a ha => by have := (ha9 a ha).1; omega, fun _ => Hgood.out, rfl, ht3, hg3⟩
      · have zn : decide ((0 : Int) < n) = true := decide_eq_true (by omega)
        go_wp2_with fail
        refine (one_any tp n _ ht3 (by omega) (by omega)).mono ?_
        rintro e w4 ⟨y, rfl, ht4, hg4⟩
        have hown4 := own_away hown hg4 (by omega)
        have hg5 := gb_trans hg3 hg4
        clear hown hB hg3 ht3 hg4 c2
        cases y
        · obtain ⟨A9, c9, rfl, hr9, ha9⟩ := own_ints hown4
          clear hown4
          go_wp2_with fail
          go_ret
          exact ⟨ms, A9, c9, by omega, hr9, fun a ha => by have := (ha9 a ha).1; omega, fun h => absurd h (by omega), rfl, ht4, hg5⟩
        go_wp2_with fail
        refine (next_any tp 2 _ ht4 (by omega) (by omega)).mono ?_
        rintro e w5 ⟨z, hz, rfl, ht5, hg6⟩
        have hown5 := own_away hown4 hg6 (by omega)
        have hg7 := gb_trans hg5 hg6
        have hz7 := hg7.size
        clear hown4 hg5 hg6 ht4
        by_cases hzz : z = 0 ∨ ms.length = 0
        · have Hend := Lib.hid (show ∀ (v9 : Value) (w9 : World), w9.ownsRow (w.heap.size + 1) 3 1 v9 (ms.length + 1) (ms.map (Value.int .i64) ++ [.int .i64 0]) → (w5.alloc (.cells #[.int .i64 0] 3)).grownBy w9 _ → TLi (PG p.l) p.l.length n tp w (.returned v9) w9 from fun v9 w9 ho hg => by
            have ho' : w9.ownsRow (w.heap.size + 1) 3 1 v9 (ms ++ [(0 : Int)]).length ((ms ++ [(0 : Int)]).map (Value.int .i64)) := by rw [List.map_append, List.length_append]; exact ho
            obtain ⟨A9, c9, rfl, hr9, ha9⟩ := own_ints ho'
            exact ⟨ms ++ [0], A9, c9, by simp; omega, hr9, fun a ha => by have := (ha9 a ha).1; omega, fun h => absurd h (by omega), rfl, tape_grown (ht5.alloc _) (hown5.alloc _) (by omega) hg, gb_grown (gb_alloc hg7 _) hg (fun k hk => by have := (hown5.lt k hk).1; omega)⟩)
          rcases Decidable.em (z = 0) with h0 | h0
          · have zz : (z == 0) = true := beq_iff_eq.2 h0
            clear h0 hzz
            go_wp2_with (at_builtin; refine wpList_append_own _ rfl _ _ 22 rfl (w.heap.size + 1) 3 i0 (.int .i64 0) 1 8 Try.underlying22 hi0 hz0 hz1 hz2 rfl (by decide) _ _ _ rfl (hown5.alloc _) ⟨w5.heap.size, 0, none⟩ 1 1 [_] rfl rfl (one_cell _ _ _ _ rfl) ?c2 ?c3 ?c4 ?c5 ?_)
            case c2 => simp [Value.oneCell']
            case c3 => simp only [maxLen]; omega
            case c4 => omega
            case c5 => first | omega | (simp; omega)
            intro v9 w9 hown9 hgrow9 _
            have Hr := Lib.hid (Hend.out v9 w9 hown9 hgrow9)
            clear Hend hown9 hgrow9 hown5
            go_wp2_with fail
            go_ret
            exact Hr.out
          · have zz : (z == 0) = false := beq_eq_false_iff_ne.2 h0
            have hm0 : ms.length = 0 := by rcases hzz with h | h; exact absurd h h0; exact h
            have zm : ((ms.length : Int) == 0) = true := beq_iff_eq.2 (by omega)
            obtain rfl := List.length_eq_zero_iff.1 hm0
            obtain ⟨A9, c9, rfl, -, -⟩ := own_ints hown5
            clear h0 hzz hm0
            go_wp2_with (at_builtin; refine wpList_append_own _ rfl _ _ 22 rfl (w.heap.size + 1) 3 i0 (.int .i64 0) 1 8 Try.underlying22 hi0 hz0 hz1 hz2 rfl (by decide) _ 0 [] rfl (hown5.alloc _) ⟨w5.heap.size, 0, none⟩ 1 1 [_] rfl rfl (one_cell _ _ _ _ rfl) ?c2 ?c3 ?c4 ?c5 ?_)
            case c2 => simp [Value.oneCell']
            case c3 => simp only [maxLen]; omega
            case c4 => omega
            case c5 => first | omega | (simp; omega)
            intro v9 w9 hown9 hgrow9 _
            have Hr := Lib.hid (Hend.out v9 w9 hown9 hgrow9)
            clear Hend hown9 hgrow9 hown5
            go_wp2_with fail
            go_ret
            exact Hr.out
        · have h0 : ¬ z = 0 := fun h => hzz (.inl h)
          have hm0 : ¬ ms.length = 0 := fun h => hzz (.inr h)
          have zz : (z == 0) = false := beq_eq_false_iff_ne.2 h0
          have zm : ((ms.length : Int) == 0) = false := beq_eq_false_iff_ne.2 (by omega)
          have zm' : (ms.length == 0) = false := beq_eq_false_iff_ne.2 hm0
          have zm2 : ¬ ms = [] := fun e => hm0 (by rw [e]; rfl)
          clear h0 hzz
          obtain ⟨g9, c9, rfl, -, -⟩ := hown5.form (by omega)
          go_wp2_with fail
          refine (next_any tp (ms.length : Int) _ ht5 (by omega) (by omega)).mono ?_
          rintro e w6 ⟨m0, hm1, rfl, ht6, hg8⟩
          have hown6 := own_away hown5 hg8 (by omega)
          have hg9 := gb_trans hg7 hg8
          obtain ⟨m, rfl⟩ := Int.eq_ofNat_of_zero_le hm1.1
          have hm2 : m < ms.length := by omega
          have q0 : (0 : Int) ≤ m := by omega
          have q1 : (m : Int) < ms.length := by omega
          clear hown5 hg7 hg8 ht5 hm1
          go_wp2_with fail
          refine (pickl tp [-3, 5, 6, 2] 4 w6 ht6 _ _ rfl (by decide) (by decide)).mono ?_
          rintro e w7 ⟨u, hu, rfl, ht7, hg10⟩
          have hown7 := own_away (hown6.alloc _) hg10 (by omega)
          have hg11 := gb_trans (gb_alloc hg9 _) hg10
          have lr := (hown7.lt g9 rfl).1
          have x0 : w7.cell? ⟨g9, m, none⟩ = some (.int .i64 (gi ms m)) := by rw [hown7.cellAt m (by omega), List.getElem?_map, gi_lt ms m hm2]; rfl
          have x1 : w7.frozen? ⟨g9, m, none⟩ = false := hown7.frozenAt m
          have hrd := rdi_set (RdI.own hown7) m hm2 u
          rw [Nat.zero_add] at hrd
          have Hrd := Lib.hid hrd
          clear hrd hown6 hown7 hg9 hg10 ht6 hu
          go_wp2_with fail
          go_ret
          exact ⟨ms.set m u, some ⟨g9, 0, none⟩, c9, by simp; omega, Hrd.out, fun a ha => by cases ha; show w.heap.size ≤ g9; omega, fun h => absurd h (by omega), by rw [List.length_set]; rfl, ht7.far (p := ⟨g9, m, none⟩) (by show tp < g9; omega) _, gb_set hg11 (p := ⟨g9, m, none⟩) (.inr (by show w.heap.size ≤ g9; omega)) _⟩
end Go.Proofs.Ytokddjohdodkmaa.Tm
