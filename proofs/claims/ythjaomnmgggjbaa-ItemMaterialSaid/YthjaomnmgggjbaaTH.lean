/- Walks: Material of the program and of the reference; Ints; the sanity check of the statements of this layer. -/
import Derived.Test.YthjaomnmgggjbaaTG
import Derived.WalkKit
import Derived.WalkSpells
import Derived.WalkLawsBesides
import Derived.Deep.QuietTactic
import Derived.BigQuiet
import Derived.Deep.Draws
import Derived.Deep.AppendLies
import Derived.Laws.OwnMore
import Derived.Laws.BytesArg
import Derived.Lib.Hide
import Derived.Deep.LoopGhost
namespace Go.Proofs.Ythjaomnmgggjbaa.Tm
open Go.RowKit Go.Proofs.Ythjaomnmgggjbaa.Mw
set_option linter.unusedVariables false

/-- The ending is a slice that reads as a list of integers, in new memory. -/
def RetI (l : List Int) (w : World) (e : Ending) (w' : World) : Prop := ∃ A c, e = .returned (.slice A l.length c) ∧ RdI w' .i64 A l ∧ (∀ a, A = some a → w.heap.size ≤ a.block ∧ a.block < w'.heap.size) ∧ Below w.heap.size w w'

theorem eq_part (p q : Pt) (w : World) : (Op.equalIn 10000 23 (pv p) (pv q)).run Try.prog w = .ok (peq p q) w := by
  go_simp
  unfold peq
  by_cases h1 : p.k = q.k <;> by_cases h2 : p.m = q.m <;> by_cases h3 : p.t = q.t <;> by_cases h4 : p.o = q.o <;> by_cases h5 : p.n = q.n <;> by_cases h6 : p.y = q.y <;> simp [h1, h2, h3, h4, h5, h6]
theorem eq_part' (a b c d e f a' b' c' d' e' f' : Int) (w : World) : (Op.equalIn 10000 23 (.agg #[.int .i64 a, .int .i64 b, .int .i64 c, .int .i64 d, .int .i64 e, .int .i64 f]) (.agg #[.int .i64 a', .int .i64 b', .int .i64 c', .int .i64 d', .int .i64 e', .int .i64 f'])).run Try.prog w = .ok (peq ⟨a, b, c, d, e, f⟩ ⟨a', b', c', d', e', f'⟩) w :=
  eq_part ⟨a, b, c, d, e, f⟩ ⟨a', b', c', d', e', f'⟩ w
theorem infoInt : (Try.prog.info? 3).map (fun i => (i.zero, i.size, i.bytes)) = some (some (.int .i64 0), 1, 8) := by kernel_rfl

attribute [local go_sem ↓] eq_part'

theorem mt_yes {a b : List Pt} {k : Nat} (h : dif a b k = true) : mt a b (k + 1) = mt a b k ++ [(k : Int)] := by rw [mt, if_pos h]
theorem mt_no {a b : List Pt} {k : Nat} (h : dif a b k = false) : mt a b (k + 1) = mt a b k := by rw [mt, if_neg (by simp [h])]

set_option maxHeartbeats 2000000 in
theorem material_any (x y : It) (A : Option Addr) (c : Nat) (E : Option Addr) (d : Nat) (A' : Option Addr) (c' : Nat) (E' : Option Addr) (d' : Nat) (w : World) (hx : ItOk w x A E) (hy : ItOk w y A' E') :
    Calls Try.prog 25 #[iv x A c E d, iv y A' c' E' d'] w (RetI (mat x.ps y.ps) w) := by
  obtain ⟨i0, hi, hz0, hz1, hz2⟩ := info_parts infoInt
  have hlx := hx.2.2.2.1
  have hly := hy.2.2.2.1
  have HX := Lib.hid hx.1
  have HY := Lib.hid hy.1
  clear hx hy
  by_cases hle : x.ps.length < y.ps.length
  all_goals
    go_enter Try.func25, Try.ntmps25
    go_wp2_with fail
    go_loopw [5, 14] (fun v i wr => ∃ k : Nat, k ≤ max x.ps.length y.ps.length ∧ i = .int .i64 k ∧ wr.ownsRow (w.heap.size + 2) 3 1 v (mt x.ps y.ps k).length ((mt x.ps y.ps k).map (Value.int .i64)) ∧ Bk wr w.heap.size 33 (itc x A c E d) ∧ Bk wr (w.heap.size + 1) 33 (itc y A' c' E' d') ∧ Below w.heap.size w wr) (fun _ i _ => max x.ps.length y.ps.length - (intOf i).toNat)
    case atStart => exact ⟨0, by omega, rfl, World.ownsRow_nil _ _ _ _, by (repeat (first | ((with_reducible refine Bk.new' ?_); (first | rfl | (simp; done) | (simp; omega))) | with_reducible refine Bk.alloc ?_ _ | with_reducible refine Bk.drewN ?_ _ | with_reducible refine Bk.drew ?_ | with_reducible assumption)), by (repeat (first | ((with_reducible refine Bk.new' ?_); (first | rfl | (simp; done) | (simp; omega))) | with_reducible refine Bk.alloc ?_ _ | with_reducible refine Bk.drewN ?_ _ | with_reducible refine Bk.drew ?_ | with_reducible assumption)), by (repeat (first | with_reducible exact Below.refl _ _ | with_reducible refine bl_drewN ?_ _ | with_reducible refine Below.drew ?_ | with_reducible refine bl_alloc ?_ _ | with_reducible refine Below.alloc ?_ (by first | omega | (simp; done) | (simp; omega)) _ | with_reducible refine Below.setCell ?_ (by first | omega | (simp; done) | (simp; omega)) _ | with_reducible assumption))⟩
    case round =>
      obtain ⟨k, hk, rfl, hown, hB1, hB2, hb⟩ := hrel
      have hz := hB2.lt
      have d3 : wr.cell? ⟨w.heap.size, 3, none⟩ = some (.slice A x.ps.length c) := hB1.cell 3
      have e3 : wr.cell? ⟨w.heap.size + 1, 3, none⟩ = some (.slice A' y.ps.length c') := hB2.cell 3
      have hml := mt_len x.ps y.ps k
      by_cases hlt : k < max x.ps.length y.ps.length
      · cases hd : dif x.ps y.ps k
        · have Hm := Lib.hid (mt_no hd)
          have hd' := hd
          simp only [dif, Bool.or_eq_false_iff, decide_eq_false_iff_not, Bool.not_eq_false'] at hd'
          obtain ⟨⟨q1, q2⟩, q3⟩ := hd'
          have q1' : (k : Int) < x.ps.length := by omega
          have q2' : (k : Int) < y.ps.length := by omega
          have q1b : decide (x.ps.length ≤ k) = false := by simp; omega
          have q2b : decide (y.ps.length ≤ k) = false := by simp; omega
          have hk0 : (0 : Int) ≤ k := by omega
          obtain ⟨b, off, rfl, hbl, c0, c1, c2, c3, c4, c5⟩ := (HX.out.old hb).at k (by omega)
          obtain ⟨b', off', rfl, hbl', c0', c1', c2', c3', c4', c5'⟩ := (HY.out.old hb).at k (by omega)
          clear hd q1 q2
          go_wp2_with fail
          go_quiet (fail)
          go_wp2_with fail
          go_roundw
          case rel => exact ⟨k + 1, by omega, by go_num, by rw [Hm.out]; exact hown, hB1, hB2, by (repeat (first | with_reducible exact Below.refl _ _ | with_reducible refine bl_drewN ?_ _ | with_reducible refine Below.drew ?_ | with_reducible refine bl_alloc ?_ _ | with_reducible refine Below.alloc ?_ (by first | omega | (simp; done) | (simp; omega)) _ | with_reducible refine Below.setCell ?_ (by first | omega | (simp; done) | (simp; omega)) _ | with_reducible assumption))⟩
          case measure => simp [intOf]; omega
        · have Hm := Lib.hid (mt_yes hd)
          have hd' := hd
          simp only [dif, Bool.or_eq_true, decide_eq_true_eq, Bool.not_eq_true'] at hd'
          have hk0 : (0 : Int) ≤ k := by omega
          have hd2 : x.ps.length ≤ k ∨ (k < x.ps.length ∧ y.ps.length ≤ k) ∨ (k < x.ps.length ∧ k < y.ps.length ∧ peq (gp x.ps k) (gp y.ps k) = false) := by
            by_cases t1 : x.ps.length ≤ k
            · exact .inl t1
            · by_cases t2 : y.ps.length ≤ k
              · exact .inr (.inl ⟨by omega, t2⟩)
              · exact .inr (.inr ⟨by omega, by omega, by rcases hd' with (h | h) | h <;> first | exact h | omega⟩)
          clear hd hd'
          rcases hd2 with q1 | ⟨q1, q2⟩ | ⟨q1, q2, q3⟩
          · try (exfalso; omega)
            all_goals
              have q1b : decide (x.ps.length ≤ k) = true := by simp; omega
              go_wp2_with fail
              go_quiet (fail)
              go_wp2_with (at_builtin; refine wpList_append_own _ rfl _ _ 28 rfl (w.heap.size + 2) 3 i0 (.int .i64 0) 1 8 Try.underlying28 hi hz0 hz1 hz2 rfl (by decide) _ _ _ rfl (World.ownsRow.alloc (w := World.drewN wr _) hown _) ⟨wr.heap.size, 0, none⟩ 1 1 [_] rfl rfl (cell_one_new _ _ _) ?c2 ?c3 ?c4 ?c5 ?_)
              case c2 => simp [Value.oneCell']
              case c3 => simp only [maxLen]; omega
              case c4 => omega
              case c5 => simp; omega
              intro v' w1 hown' hgrow _
              have hb1 : Below w.heap.size w w1 := (bl_alloc (bl_drewN hb _) _).grown hgrow (by simp; omega) (fun j hj => by have := (hown.lt j hj).1; omega)
              have hown1 : w1.ownsRow (w.heap.size + 2) 3 1 v' (mt x.ps y.ps (k + 1)).length ((mt x.ps y.ps (k + 1)).map (Value.int .i64)) := by
                rw [Hm.out, List.map_append, List.length_append]
                exact hown'
              have hB1' := Bk.grown (Bk.alloc (Bk.drewN hB1 _) _) hgrow (fun e => by have := (hown.lt _ e.symm).1; omega)
              have hB2' := Bk.grown (Bk.alloc (Bk.drewN hB2 _) _) hgrow (fun e => by have := (hown.lt _ e.symm).1; omega)
              clear hown' hgrow hown hb hB1 hB2
              go_wp2_with fail
              go_roundw
              case rel => exact ⟨k + 1, by omega, by go_num, hown1, hB1', hB2', hb1⟩
              case measure => simp [intOf]; omega
          · try (exfalso; omega)
            all_goals
              have q1b : decide (x.ps.length ≤ k) = false := by simp; omega
              have q2b : decide (y.ps.length ≤ k) = true := by simp; omega
              go_wp2_with fail
              go_quiet (fail)
              go_wp2_with (at_builtin; refine wpList_append_own _ rfl _ _ 28 rfl (w.heap.size + 2) 3 i0 (.int .i64 0) 1 8 Try.underlying28 hi hz0 hz1 hz2 rfl (by decide) _ _ _ rfl (World.ownsRow.alloc (w := World.drewN wr _) hown _) ⟨wr.heap.size, 0, none⟩ 1 1 [_] rfl rfl (cell_one_new _ _ _) ?c2 ?c3 ?c4 ?c5 ?_)
              case c2 => simp [Value.oneCell']
              case c3 => simp only [maxLen]; omega
              case c4 => omega
              case c5 => simp; omega
              intro v' w1 hown' hgrow _
              have hb1 : Below w.heap.size w w1 := (bl_alloc (bl_drewN hb _) _).grown hgrow (by simp; omega) (fun j hj => by have := (hown.lt j hj).1; omega)
              have hown1 : w1.ownsRow (w.heap.size + 2) 3 1 v' (mt x.ps y.ps (k + 1)).length ((mt x.ps y.ps (k + 1)).map (Value.int .i64)) := by
                rw [Hm.out, List.map_append, List.length_append]
                exact hown'
              have hB1' := Bk.grown (Bk.alloc (Bk.drewN hB1 _) _) hgrow (fun e => by have := (hown.lt _ e.symm).1; omega)
              have hB2' := Bk.grown (Bk.alloc (Bk.drewN hB2 _) _) hgrow (fun e => by have := (hown.lt _ e.symm).1; omega)
              clear hown' hgrow hown hb hB1 hB2
              go_wp2_with fail
              go_roundw
              case rel => exact ⟨k + 1, by omega, by go_num, hown1, hB1', hB2', hb1⟩
              case measure => simp [intOf]; omega
          · try (exfalso; omega)
            all_goals
              have q1b : decide (x.ps.length ≤ k) = false := by simp; omega
              have q2b : decide (y.ps.length ≤ k) = false := by simp; omega
              have q1' : (k : Int) < x.ps.length := by omega
              have q2' : (k : Int) < y.ps.length := by omega
              obtain ⟨b, off, rfl, hbl, c0, c1, c2, c3, c4, c5⟩ := (HX.out.old hb).at k (by omega)
              obtain ⟨b', off', rfl, hbl', c0', c1', c2', c3', c4', c5'⟩ := (HY.out.old hb).at k (by omega)
              go_wp2_with fail
              go_quiet (fail)
              go_wp2_with (at_builtin; refine wpList_append_own _ rfl _ _ 28 rfl (w.heap.size + 2) 3 i0 (.int .i64 0) 1 8 Try.underlying28 hi hz0 hz1 hz2 rfl (by decide) _ _ _ rfl (World.ownsRow.alloc (w := World.drewN wr _) hown _) ⟨wr.heap.size, 0, none⟩ 1 1 [_] rfl rfl (cell_one_new _ _ _) ?c2 ?c3 ?c4 ?c5 ?_)
              case c2 => simp [Value.oneCell']
              case c3 => simp only [maxLen]; omega
              case c4 => omega
              case c5 => simp; omega
              intro v' w1 hown' hgrow _
              have hb1 : Below w.heap.size w w1 := (bl_alloc (bl_drewN hb _) _).grown hgrow (by simp; omega) (fun j hj => by have := (hown.lt j hj).1; omega)
              have hown1 : w1.ownsRow (w.heap.size + 2) 3 1 v' (mt x.ps y.ps (k + 1)).length ((mt x.ps y.ps (k + 1)).map (Value.int .i64)) := by
                rw [Hm.out, List.map_append, List.length_append]
                exact hown'
              have hB1' := Bk.grown (Bk.alloc (Bk.drewN hB1 _) _) hgrow (fun e => by have := (hown.lt _ e.symm).1; omega)
              have hB2' := Bk.grown (Bk.alloc (Bk.drewN hB2 _) _) hgrow (fun e => by have := (hown.lt _ e.symm).1; omega)
              clear hown' hgrow hown hb hB1 hB2
              go_wp2_with fail
              go_roundw
              case rel => exact ⟨k + 1, by omega, by go_num, hown1, hB1', hB2', hb1⟩
              case measure => simp [intOf]; omega
      · obtain ⟨A1, c1, rfl, hr1, ha1⟩ := own_ints hown
        have Hk : Hid (k = max x.ps.length y.ps.length) := by unfold Hid; omega
        have hml' : (mt x.ps y.ps k).length ≤ k := hml
        clear hown hml
        go_wp2_with fail
        go_ret
        refine ⟨A1, c1, ?_, ?_, ?_, hb⟩
        · unfold mat; rw [← Hk.out]; rfl
        · unfold mat; rw [← Hk.out]; exact hr1
        · intro a ha; have := ha1 a ha; omega

set_option maxHeartbeats 2000000 in
theorem rmaterial_any (x y : It) (A : Option Addr) (c : Nat) (E : Option Addr) (d : Nat) (A' : Option Addr) (c' : Nat) (E' : Option Addr) (d' : Nat) (w : World) (hx : ItOk w x A E) (hy : ItOk w y A' E') :
    Calls Try.prog 26 #[iv x A c E d, iv y A' c' E' d'] w (RetI (mat x.ps y.ps) w) := by
  obtain ⟨i0, hi, hz0, hz1, hz2⟩ := info_parts infoInt
  have hlx := hx.2.2.2.1
  have hly := hy.2.2.2.1
  have HX := Lib.hid hx.1
  have HY := Lib.hid hy.1
  clear hx hy
  by_cases hle : x.ps.length < y.ps.length
  all_goals
    go_enter Try.func26, Try.ntmps26
    go_wp2_with fail
    go_loopw [5, 6] (fun v i wr => ∃ k : Nat, k ≤ max x.ps.length y.ps.length ∧ i = .int .i64 k ∧ wr.ownsRow (w.heap.size + 2) 3 1 v (mt x.ps y.ps k).length ((mt x.ps y.ps k).map (Value.int .i64)) ∧ Bk wr w.heap.size 33 (itc x A c E d) ∧ Bk wr (w.heap.size + 1) 33 (itc y A' c' E' d') ∧ Below w.heap.size w wr) (fun _ i _ => max x.ps.length y.ps.length - (intOf i).toNat)
    case atStart => exact ⟨0, by omega, rfl, World.ownsRow_nil _ _ _ _, by (repeat (first | ((with_reducible refine Bk.new' ?_); (first | rfl | (simp; done) | (simp; omega))) | with_reducible refine Bk.alloc ?_ _ | with_reducible refine Bk.drewN ?_ _ | with_reducible refine Bk.drew ?_ | with_reducible assumption)), by (repeat (first | ((with_reducible refine Bk.new' ?_); (first | rfl | (simp; done) | (simp; omega))) | with_reducible refine Bk.alloc ?_ _ | with_reducible refine Bk.drewN ?_ _ | with_reducible refine Bk.drew ?_ | with_reducible assumption)), by (repeat (first | with_reducible exact Below.refl _ _ | with_reducible refine bl_drewN ?_ _ | with_reducible refine Below.drew ?_ | with_reducible refine bl_alloc ?_ _ | with_reducible refine Below.alloc ?_ (by first | omega | (simp; done) | (simp; omega)) _ | with_reducible refine Below.setCell ?_ (by first | omega | (simp; done) | (simp; omega)) _ | with_reducible assumption))⟩
    case round =>
      obtain ⟨k, hk, rfl, hown, hB1, hB2, hb⟩ := hrel
      have hz := hB2.lt
      have d3 : wr.cell? ⟨w.heap.size, 3, none⟩ = some (.slice A x.ps.length c) := hB1.cell 3
      have e3 : wr.cell? ⟨w.heap.size + 1, 3, none⟩ = some (.slice A' y.ps.length c') := hB2.cell 3
      have hml := mt_len x.ps y.ps k
      by_cases hlt : k < max x.ps.length y.ps.length
      · cases hd : dif x.ps y.ps k
        · have Hm := Lib.hid (mt_no hd)
          have hd' := hd
          simp only [dif, Bool.or_eq_false_iff, decide_eq_false_iff_not, Bool.not_eq_false'] at hd'
          obtain ⟨⟨q1, q2⟩, q3⟩ := hd'
          have q1' : (k : Int) < x.ps.length := by omega
          have q2' : (k : Int) < y.ps.length := by omega
          have q1b : decide (x.ps.length ≤ k) = false := by simp; omega
          have q2b : decide (y.ps.length ≤ k) = false := by simp; omega
          have hk0 : (0 : Int) ≤ k := by omega
          obtain ⟨b, off, rfl, hbl, c0, c1, c2, c3, c4, c5⟩ := (HX.out.old hb).at k (by omega)
          obtain ⟨b', off', rfl, hbl', c0', c1', c2', c3', c4', c5'⟩ := (HY.out.old hb).at k (by omega)
          clear hd q1 q2
          go_wp2_with fail
          go_quiet (fail)
          go_wp2_with fail
          go_roundw
          case rel => exact ⟨k + 1, by omega, by go_num, by rw [Hm.out]; exact hown, hB1, hB2, by (repeat (first | with_reducible exact Below.refl _ _ | with_reducible refine bl_drewN ?_ _ | with_reducible refine Below.drew ?_ | with_reducible refine bl_alloc ?_ _ | with_reducible refine Below.alloc ?_ (by first | omega | (simp; done) | (simp; omega)) _ | with_reducible refine Below.setCell ?_ (by first | omega | (simp; done) | (simp; omega)) _ | with_reducible assumption))⟩
          case measure => simp [intOf]; omega
        · have Hm := Lib.hid (mt_yes hd)
          have hd' := hd
          simp only [dif, Bool.or_eq_true, decide_eq_true_eq, Bool.not_eq_true'] at hd'
          have hk0 : (0 : Int) ≤ k := by omega
          have hd2 : x.ps.length ≤ k ∨ (k < x.ps.length ∧ y.ps.length ≤ k) ∨ (k < x.ps.length ∧ k < y.ps.length ∧ peq (gp x.ps k) (gp y.ps k) = false) := by
            by_cases t1 : x.ps.length ≤ k
            · exact .inl t1
            · by_cases t2 : y.ps.length ≤ k
              · exact .inr (.inl ⟨by omega, t2⟩)
              · exact .inr (.inr ⟨by omega, by omega, by rcases hd' with (h | h) | h <;> first | exact h | omega⟩)
          clear hd hd'
          rcases hd2 with q1 | ⟨q1, q2⟩ | ⟨q1, q2, q3⟩
          · try (exfalso; omega)
            all_goals
              have q1b : decide (x.ps.length ≤ k) = true := by simp; omega
              go_wp2_with fail
              go_quiet (fail)
              go_wp2_with (at_builtin; refine wpList_append_own _ rfl _ _ 28 rfl (w.heap.size + 2) 3 i0 (.int .i64 0) 1 8 Try.underlying28 hi hz0 hz1 hz2 rfl (by decide) _ _ _ rfl (World.ownsRow.alloc (w := World.drewN wr _) hown _) ⟨wr.heap.size, 0, none⟩ 1 1 [_] rfl rfl (cell_one_new _ _ _) ?c2 ?c3 ?c4 ?c5 ?_)
              case c2 => simp [Value.oneCell']
              case c3 => simp only [maxLen]; omega
              case c4 => omega
              case c5 => simp; omega
              intro v' w1 hown' hgrow _
              have hb1 : Below w.heap.size w w1 := (bl_alloc (bl_drewN hb _) _).grown hgrow (by simp; omega) (fun j hj => by have := (hown.lt j hj).1; omega)
              have hown1 : w1.ownsRow (w.heap.size + 2) 3 1 v' (mt x.ps y.ps (k + 1)).length ((mt x.ps y.ps (k + 1)).map (Value.int .i64)) := by
                rw [Hm.out, List.map_append, List.length_append]
                exact hown'
              have hB1' := Bk.grown (Bk.alloc (Bk.drewN hB1 _) _) hgrow (fun e => by have := (hown.lt _ e.symm).1; omega)
              have hB2' := Bk.grown (Bk.alloc (Bk.drewN hB2 _) _) hgrow (fun e => by have := (hown.lt _ e.symm).1; omega)
              clear hown' hgrow hown hb hB1 hB2
              go_wp2_with fail
              go_roundw
              case rel => exact ⟨k + 1, by omega, by go_num, hown1, hB1', hB2', hb1⟩
              case measure => simp [intOf]; omega
          · try (exfalso; omega)
            all_goals
              have q1b : decide (x.ps.length ≤ k) = false := by simp; omega
              have q2b : decide (y.ps.length ≤ k) = true := by simp; omega
              go_wp2_with fail
              go_quiet (fail)
              go_wp2_with (at_builtin; refine wpList_append_own _ rfl _ _ 28 rfl (w.heap.size + 2) 3 i0 (.int .i64 0) 1 8 Try.underlying28 hi hz0 hz1 hz2 rfl (by decide) _ _ _ rfl (World.ownsRow.alloc (w := World.drewN wr _) hown _) ⟨wr.heap.size, 0, none⟩ 1 1 [_] rfl rfl (cell_one_new _ _ _) ?c2 ?c3 ?c4 ?c5 ?_)
              case c2 => simp [Value.oneCell']
              case c3 => simp only [maxLen]; omega
              case c4 => omega
              case c5 => simp; omega
              intro v' w1 hown' hgrow _
              have hb1 : Below w.heap.size w w1 := (bl_alloc (bl_drewN hb _) _).grown hgrow (by simp; omega) (fun j hj => by have := (hown.lt j hj).1; omega)
              have hown1 : w1.ownsRow (w.heap.size + 2) 3 1 v' (mt x.ps y.ps (k + 1)).length ((mt x.ps y.ps (k + 1)).map (Value.int .i64)) := by
                rw [Hm.out, List.map_append, List.length_append]
                exact hown'
              have hB1' := Bk.grown (Bk.alloc (Bk.drewN hB1 _) _) hgrow (fun e => by have := (hown.lt _ e.symm).1; omega)
              have hB2' := Bk.grown (Bk.alloc (Bk.drewN hB2 _) _) hgrow (fun e => by have := (hown.lt _ e.symm).1; omega)
              clear hown' hgrow hown hb hB1 hB2
              go_wp2_with fail
              go_roundw
              case rel => exact ⟨k + 1, by omega, by go_num, hown1, hB1', hB2', hb1⟩
              case measure => simp [intOf]; omega
          · try (exfalso; omega)
            all_goals
              have q1b : decide (x.ps.length ≤ k) = false := by simp; omega
              have q2b : decide (y.ps.length ≤ k) = false := by simp; omega
              have q1' : (k : Int) < x.ps.length := by omega
              have q2' : (k : Int) < y.ps.length := by omega
              obtain ⟨b, off, rfl, hbl, c0, c1, c2, c3, c4, c5⟩ := (HX.out.old hb).at k (by omega)
              obtain ⟨b', off', rfl, hbl', c0', c1', c2', c3', c4', c5'⟩ := (HY.out.old hb).at k (by omega)
              go_wp2_with fail
              go_quiet (fail)
              go_wp2_with (at_builtin; refine wpList_append_own _ rfl _ _ 28 rfl (w.heap.size + 2) 3 i0 (.int .i64 0) 1 8 Try.underlying28 hi hz0 hz1 hz2 rfl (by decide) _ _ _ rfl (World.ownsRow.alloc (w := World.drewN wr _) hown _) ⟨wr.heap.size, 0, none⟩ 1 1 [_] rfl rfl (cell_one_new _ _ _) ?c2 ?c3 ?c4 ?c5 ?_)
              case c2 => simp [Value.oneCell']
              case c3 => simp only [maxLen]; omega
              case c4 => omega
              case c5 => simp; omega
              intro v' w1 hown' hgrow _
              have hb1 : Below w.heap.size w w1 := (bl_alloc (bl_drewN hb _) _).grown hgrow (by simp; omega) (fun j hj => by have := (hown.lt j hj).1; omega)
              have hown1 : w1.ownsRow (w.heap.size + 2) 3 1 v' (mt x.ps y.ps (k + 1)).length ((mt x.ps y.ps (k + 1)).map (Value.int .i64)) := by
                rw [Hm.out, List.map_append, List.length_append]
                exact hown'
              have hB1' := Bk.grown (Bk.alloc (Bk.drewN hB1 _) _) hgrow (fun e => by have := (hown.lt _ e.symm).1; omega)
              have hB2' := Bk.grown (Bk.alloc (Bk.drewN hB2 _) _) hgrow (fun e => by have := (hown.lt _ e.symm).1; omega)
              clear hown' hgrow hown hb hB1 hB2
              go_wp2_with fail
              go_roundw
              case rel => exact ⟨k + 1, by omega, by go_num, hown1, hB1', hB2', hb1⟩
              case measure => simp [intOf]; omega
      · obtain ⟨A1, c1, rfl, hr1, ha1⟩ := own_ints hown
        have Hk : Hid (k = max x.ps.length y.ps.length) := by unfold Hid; omega
        have hml' : (mt x.ps y.ps k).length ≤ k := hml
        clear hown hml
        go_wp2_with fail
        go_ret
        refine ⟨A1, c1, ?_, ?_, ?_, hb⟩
        · unfold mat; rw [← Hk.out]; rfl
        · unfold mat; rw [← Hk.out]; exact hr1
        · intro a ha; have := ha1 a ha; omega

end Go.Proofs.Ythjaomnmgggjbaa.Tm
