/- Walks: Choices, of the program and of the reference. -/
import Derived.Test.YthjaomnmgggjbaaTZ
import Derived.WalkKit
import Derived.WalkSpells
import Derived.WalkLawsBesides
import Derived.Deep.QuietTactic
import Derived.BigQuiet
import Derived.Deep.Draws
import Derived.Deep.AppendLies
import Derived.Laws.OwnMore
import Derived.Laws.BytesArg
import Derived.Lib.Hide
import Derived.Deep.LoopGhost
namespace Go.Proofs.Ythjaomnmgggjbaa.Tm
open Go.RowKit Go.Proofs.Ythjaomnmgggjbaa.Mw
set_option linter.unusedVariables false

theorem one_at (W : World) (a : Value) (T : TypeId) (g : Nat) (hg : g = W.heap.size) : ∀ j u, [a][j]? = some u → (W.alloc (.cells #[a] T)).cell? ((⟨g, 0, none⟩ : Addr).add j) = some u := by
  subst hg
  intro j u hu
  match j, hu with
  | 0, hu => cases hu; simp [Addr.add, World.cell?_alloc_at]
  | j + 1, hu => simp at hu
/-- The numbers of the choice parts among the first. -/
def chl (l : List Pt) : Nat → List Int
  | 0 => []
  | k + 1 => if ((gp l k).k == 2) = true then chl l k ++ [(k : Int)] else chl l k
theorem chl_len (l : List Pt) : ∀ k, (chl l k).length ≤ k
  | 0 => by simp [chl]
  | k + 1 => by
    have := chl_len l k
    rw [chl]
    split
    · simp; omega
    · omega
theorem chl_yes {l : List Pt} {k : Nat} (h : ((gp l k).k == 2) = true) : chl l (k + 1) = chl l k ++ [(k : Int)] := by rw [chl, if_pos h]
theorem chl_no {l : List Pt} {k : Nat} (h : ((gp l k).k == 2) = false) : chl l (k + 1) = chl l k := by rw [chl, if_neg (by simp [h])]
def choi (c v : Int) (l : List Pt) : List Int := if vpp c v l = true then chl l l.length else []

set_option maxHeartbeats 1000000 in
theorem choices_any (c v : Int) (A : Option Addr) (l : List Pt) (k : Nat) (w : World) (hl : l.length ≤ 1000000) (hr : RdP w A l) :
    Calls Try.prog 34 #[.agg (ppc c v A l k)] w (RetI (choi c v l) w) := by
  obtain ⟨i0, hi, hz0, hz1, hz2⟩ := info_parts infoInt
  have HR := Lib.hid hr
  clear hr
  cases h : vpp c v l
  · have Ht : Hid (choi c v l = []) := if_neg (by simp [h])
    go_enter Try.func34, Try.ntmps34
    go_wp2_with fail
    refine (vpaper_any c v A l k _ hl (HR.out.alloc _)).mono ?_
    rintro e w1 ⟨rfl, hb1⟩
    go_wp2_with fail
    go_ret
    refine ⟨none, 0, by rw [Ht.out]; rfl, by rw [Ht.out]; exact RdI.nil _ _ _, fun a ha => (by cases ha), bl_trans (by (repeat (first | with_reducible exact Below.refl _ _ | with_reducible refine bl_drewN ?_ _ | with_reducible refine Below.drew ?_ | with_reducible refine bl_alloc ?_ _ | with_reducible refine Below.alloc ?_ (by first | omega | (simp; done) | (simp; omega)) _ | with_reducible refine Below.setCell ?_ (by first | omega | (simp; done) | (simp; omega)) _ | with_reducible assumption))) hb1⟩
  · have Ht : Hid (choi c v l = chl l l.length) := if_pos h
    obtain ⟨v1, v2, v3⟩ := vpp_ok h
    have hle := (decide_eq_true_iff.1 v1).2.2.2.2.2
    clear v1 v2 v3
    go_enter Try.func34, Try.ntmps34
    go_wp2_with fail
    refine (vpaper_any c v A l k _ hl (HR.out.alloc _)).mono ?_
    rintro e w1 ⟨rfl, hb1⟩
    have hB1 : Bk w1 w.heap.size 46 (ppc c v A l k) := (Bk.new _ _ _).old hb1
    have d2 : w1.cell? ⟨w.heap.size, 2, none⟩ = some (.slice A l.length k) := hB1.cell 2
    have hc1 : Below w.heap.size w w1 := bl_trans (by (repeat (first | with_reducible exact Below.refl _ _ | with_reducible refine bl_drewN ?_ _ | with_reducible refine Below.drew ?_ | with_reducible refine bl_alloc ?_ _ | with_reducible refine Below.alloc ?_ (by first | omega | (simp; done) | (simp; omega)) _ | with_reducible refine Below.setCell ?_ (by first | omega | (simp; done) | (simp; omega)) _ | with_reducible assumption))) hb1
    clear hb1
    go_wp2_with fail
    clear d2
    go_loopw [3, 12] (fun x i wr => ∃ j : Nat, j ≤ l.length ∧ i = .int .i64 j ∧ wr.ownsRow (w.heap.size + 1) 3 1 x (chl l j).length ((chl l j).map (Value.int .i64)) ∧ Bk wr w.heap.size 46 (ppc c v A l k) ∧ Below w.heap.size w wr) (fun _ i _ => l.length - (intOf i).toNat)
    case atStart => exact ⟨0, by omega, rfl, World.ownsRow_nil _ _ _ _, hB1, hc1⟩
    case round =>
      clear hB1 hc1
      obtain ⟨j, hj, rfl, hown, hB, hb⟩ := hrel
      have hz := hB.lt
      have hcl := chl_len l j
      have d2 : wr.cell? ⟨w.heap.size, 2, none⟩ = some (.slice A l.length k) := hB.cell 2
      by_cases hlt : j < l.length
      · obtain ⟨b, off, rfl, hbl, c0, c1, c2, c3, c4, c5⟩ := (HR.out.old hb).at j hlt
        cases hk : ((gp l j).k == 2)
        · have Hc := Lib.hid (chl_no hk)
          go_wp2_with fail
          go_roundw
          case rel => exact ⟨j + 1, by omega, by go_num, by rw [Hc.out]; first | exact hown | exact hown.alloc _, by first | exact hB | exact hB.alloc _, by (repeat (first | with_reducible exact Below.refl _ _ | with_reducible refine bl_drewN ?_ _ | with_reducible refine Below.drew ?_ | with_reducible refine bl_alloc ?_ _ | with_reducible refine Below.alloc ?_ (by first | omega | (simp; done) | (simp; omega)) _ | with_reducible refine Below.setCell ?_ (by first | omega | (simp; done) | (simp; omega)) _ | with_reducible assumption))⟩
          case measure => simp [intOf]; omega
        · have Hc := Lib.hid (chl_yes hk)
          go_wp2_with (at_builtin; refine wpList_append_own _ rfl _ _ 28 rfl (w.heap.size + 1) 3 i0 (.int .i64 0) 1 8 Try.underlying28 hi hz0 hz1 hz2 rfl (by decide) _ _ _ rfl ((hown.alloc _).alloc _) ⟨wr.heap.size + 1, 0, none⟩ 1 1 [_] rfl rfl (one_at _ _ _ _ (by simp)) ?c2 ?c3 ?c4 ?c5 ?_)
          case c2 => simp [Value.oneCell']
          case c3 => simp only [maxLen]; omega
          case c4 => omega
          case c5 => first | omega | (simp; omega)
          intro v' w3 hown' hgrow _
          have hb3 : Below w.heap.size w w3 := Below.grown (bl_alloc (bl_alloc hb _) _) hgrow (by simp; omega) (fun q hq => by have := (hown.lt q hq).1; omega)
          have hown3 : w3.ownsRow (w.heap.size + 1) 3 1 v' (chl l (j + 1)).length ((chl l (j + 1)).map (Value.int .i64)) := by
            rw [Hc.out, List.map_append, List.length_append]
            exact hown'
          have hB3 := Bk.grown ((hB.alloc _).alloc _) hgrow (fun e => by have := (hown.lt _ e.symm).1; omega)
          clear hown' hgrow hown hb hB c0 c1 c2 c3 c4 c5 d2
          go_wp2_with fail
          go_roundw
          case rel => exact ⟨j + 1, by omega, by go_num, hown3, hB3, hb3⟩
          case measure => simp [intOf]; omega
      · obtain ⟨A1, c1, rfl, hr1, ha1⟩ := own_ints hown
        have Hj : Hid (j = l.length) := by unfold Hid; omega
        clear hown
        go_wp2_with fail
        go_ret
        refine ⟨A1, c1, ?_, ?_, ?_, hb⟩
        · rw [Ht.out, ← Hj.out]; rfl
        · rw [Ht.out, ← Hj.out]; exact hr1
        · intro a ha; have := ha1 a ha; omega

set_option maxHeartbeats 1000000 in
theorem rchoices_any (c v : Int) (A : Option Addr) (l : List Pt) (k : Nat) (w : World) (hl : l.length ≤ 1000000) (hr : RdP w A l) :
    Calls Try.prog 35 #[.agg (ppc c v A l k)] w (RetI (choi c v l) w) := by
  obtain ⟨i0, hi, hz0, hz1, hz2⟩ := info_parts infoInt
  have HR := Lib.hid hr
  clear hr
  cases h : vpp c v l
  · have Ht : Hid (choi c v l = []) := if_neg (by simp [h])
    go_enter Try.func35, Try.ntmps35
    go_wp2_with fail
    refine (rvpaper_any c v A l k _ hl (HR.out.alloc _)).mono ?_
    rintro e w1 ⟨rfl, hb1⟩
    go_wp2_with fail
    go_ret
    refine ⟨none, 0, by rw [Ht.out]; rfl, by rw [Ht.out]; exact RdI.nil _ _ _, fun a ha => (by cases ha), bl_trans (by (repeat (first | with_reducible exact Below.refl _ _ | with_reducible refine bl_drewN ?_ _ | with_reducible refine Below.drew ?_ | with_reducible refine bl_alloc ?_ _ | with_reducible refine Below.alloc ?_ (by first | omega | (simp; done) | (simp; omega)) _ | with_reducible refine Below.setCell ?_ (by first | omega | (simp; done) | (simp; omega)) _ | with_reducible assumption))) hb1⟩
  · have Ht : Hid (choi c v l = chl l l.length) := if_pos h
    obtain ⟨v1, v2, v3⟩ := vpp_ok h
    have hle := (decide_eq_true_iff.1 v1).2.2.2.2.2
    clear v1 v2 v3
    go_enter Try.func35, Try.ntmps35
    go_wp2_with fail
    refine (rvpaper_any c v A l k _ hl (HR.out.alloc _)).mono ?_
    rintro e w1 ⟨rfl, hb1⟩
    have hB1 : Bk w1 w.heap.size 46 (ppc c v A l k) := (Bk.new _ _ _).old hb1
    have d2 : w1.cell? ⟨w.heap.size, 2, none⟩ = some (.slice A l.length k) := hB1.cell 2
    have hc1 : Below w.heap.size w w1 := bl_trans (by (repeat (first | with_reducible exact Below.refl _ _ | with_reducible refine bl_drewN ?_ _ | with_reducible refine Below.drew ?_ | with_reducible refine bl_alloc ?_ _ | with_reducible refine Below.alloc ?_ (by first | omega | (simp; done) | (simp; omega)) _ | with_reducible refine Below.setCell ?_ (by first | omega | (simp; done) | (simp; omega)) _ | with_reducible assumption))) hb1
    clear hb1
    go_wp2_with fail
    clear d2
    go_loopw [3, 4] (fun x i wr => ∃ j : Nat, j ≤ l.length ∧ i = .int .i64 j ∧ wr.ownsRow (w.heap.size + 1) 3 1 x (chl l j).length ((chl l j).map (Value.int .i64)) ∧ Bk wr w.heap.size 46 (ppc c v A l k) ∧ Below w.heap.size w wr) (fun _ i _ => l.length - (intOf i).toNat)
    case atStart => exact ⟨0, by omega, rfl, World.ownsRow_nil _ _ _ _, hB1, hc1⟩
    case round =>
      clear hB1 hc1
      obtain ⟨j, hj, rfl, hown, hB, hb⟩ := hrel
      have hz := hB.lt
      have hcl := chl_len l j
      have d2 : wr.cell? ⟨w.heap.size, 2, none⟩ = some (.slice A l.length k) := hB.cell 2
      by_cases hlt : j < l.length
      · obtain ⟨b, off, rfl, hbl, c0, c1, c2, c3, c4, c5⟩ := (HR.out.old hb).at j hlt
        cases hk : ((gp l j).k == 2)
        · have Hc := Lib.hid (chl_no hk)
          go_wp2_with fail
          go_roundw
          case rel => exact ⟨j + 1, by omega, by go_num, by rw [Hc.out]; first | exact hown | exact hown.alloc _, by first | exact hB | exact hB.alloc _, by (repeat (first | with_reducible exact Below.refl _ _ | with_reducible refine bl_drewN ?_ _ | with_reducible refine Below.drew ?_ | with_reducible refine bl_alloc ?_ _ | with_reducible refine Below.alloc ?_ (by first | omega | (simp; done) | (simp; omega)) _ | with_reducible refine Below.setCell ?_ (by first | omega | (simp; done) | (simp; omega)) _ | with_reducible assumption))⟩
          case measure => simp [intOf]; omega
        · have Hc := Lib.hid (chl_yes hk)
          go_wp2_with (at_builtin; refine wpList_append_own _ rfl _ _ 28 rfl (w.heap.size + 1) 3 i0 (.int .i64 0) 1 8 Try.underlying28 hi hz0 hz1 hz2 rfl (by decide) _ _ _ rfl (hown.alloc _) ⟨wr.heap.size, 0, none⟩ 1 1 [_] rfl rfl (one_at _ _ _ _ (by simp)) ?c2 ?c3 ?c4 ?c5 ?_)
          case c2 => simp [Value.oneCell']
          case c3 => simp only [maxLen]; omega
          case c4 => omega
          case c5 => first | omega | (simp; omega)
          intro v' w3 hown' hgrow _
          have hb3 : Below w.heap.size w w3 := Below.grown (bl_alloc hb _) hgrow (by simp; omega) (fun q hq => by have := (hown.lt q hq).1; omega)
          have hown3 : w3.ownsRow (w.heap.size + 1) 3 1 v' (chl l (j + 1)).length ((chl l (j + 1)).map (Value.int .i64)) := by
            rw [Hc.out, List.map_append, List.length_append]
            exact hown'
          have hB3 := Bk.grown (hB.alloc _) hgrow (fun e => by have := (hown.lt _ e.symm).1; omega)
          clear hown' hgrow hown hb hB c0 c1 c2 c3 c4 c5 d2
          go_wp2_with fail
          go_roundw
          case rel => exact ⟨j + 1, by omega, by go_num, hown3, hB3, hb3⟩
          case measure => simp [intOf]; omega
      · obtain ⟨A1, c1, rfl, hr1, ha1⟩ := own_ints hown
        have Hj : Hid (j = l.length) := by unfold Hid; omega
        clear hown
        go_wp2_with fail
        go_ret
        refine ⟨A1, c1, ?_, ?_, ?_, hb⟩
        · rw [Ht.out, ← Hj.out]; rfl
        · rw [Ht.out, ← Hj.out]; exact hr1
        · intro a ha; have := ha1 a ha; omega

end Go.Proofs.Ythjaomnmgggjbaa.Tm
