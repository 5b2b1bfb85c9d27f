/- Walks: Step of the program. -/
import Derived.Test.YtpgkiiaoddhdcaaMGr
import Derived.WalkKit
import Derived.WalkSpells
import Derived.WalkLawsBesides
import Derived.Deep.QuietTactic
import Derived.BigQuiet
import Derived.Deep.Draws
import Derived.Deep.AppendLies
import Derived.Laws.OwnMore
import Derived.Laws.BytesArg
import Derived.Lib.Hide
import Derived.Deep.LoopGhost
import Derived.OwnWalk
namespace Go.Proofs.Ytpgkiiaoddhdcaa.Mo
open Go.RowKit Go.Proofs.Ytpgkiiaoddhdcaa.Mw Go.Proofs.Ytpgkiiaoddhdcaa.Dc
set_option linter.unusedVariables false

/-- A step that is taken. -/
def StOk (r : Rl) (l : List Bool) (g : Bool) (w : World) (e : Ending) (w' : World) : Prop := ∃ A c, e = .returned (.tuple #[wv A (nx r.w.toNat l g) c (fl r (nx r.w.toNat l g)), .int .i64 0]) ∧ RdB w' A (nx r.w.toNat l g) ∧ (∀ a, A = some a → w.heap.size ≤ a.block ∧ a.block < w'.heap.size) ∧ Below w.heap.size w w'
abbrev w0 : Value := .agg #[.slice none 0 0, .bool false]
theorem valid_yes (r : Rl) (l : List Bool) (A : Option Addr) (c : Nat) (s : Bool) (h : vld r l s = true) (w : World) (hl : l.length ≤ 1000000) (hr : RdB w A l) :
    Calls Try.prog 18 #[rv r, wv A l c s] w fun e w' => e = .returned (.bool true) ∧ Below w.heap.size w w' := by
  have := valid_any r l A c s w hl hr; rwa [h] at this
theorem valid_no (r : Rl) (l : List Bool) (A : Option Addr) (c : Nat) (s : Bool) (h : vld r l s = false) (w : World) (hl : l.length ≤ 1000000) (hr : RdB w A l) :
    Calls Try.prog 18 #[rv r, wv A l c s] w fun e w' => e = .returned (.bool false) ∧ Below w.heap.size w w' := by
  have := valid_any r l A c s w hl hr; rwa [h] at this
theorem rvalid_yes (r : Rl) (l : List Bool) (A : Option Addr) (c : Nat) (s : Bool) (h : vld r l s = true) (w : World) (hl : l.length ≤ 1000000) (hr : RdB w A l) :
    Calls Try.prog 19 #[rv r, wv A l c s] w fun e w' => e = .returned (.bool true) ∧ Below w.heap.size w w' := by
  have := rvalid_any r l A c s w hl hr; rwa [h] at this
theorem rvalid_no (r : Rl) (l : List Bool) (A : Option Addr) (c : Nat) (s : Bool) (h : vld r l s = false) (w : World) (hl : l.length ≤ 1000000) (hr : RdB w A l) :
    Calls Try.prog 19 #[rv r, wv A l c s] w fun e w' => e = .returned (.bool false) ∧ Below w.heap.size w w' := by
  have := rvalid_any r l A c s w hl hr; rwa [h] at this
theorem vld_chk {r : Rl} {l : List Bool} {s : Bool} (h : vld r l s = true) : chk r = true ∧ (l.length : Int) ≤ r.w := by
  unfold vld at h
  simp only [Bool.and_eq_true, decide_eq_true_eq] at h
  exact h.1

set_option maxHeartbeats 400000 in
theorem step_inv (r : Rl) (l : List Bool) (A : Option Addr) (c : Nat) (s g : Bool) (hv : vld r l s = false) (w : World) (hl : l.length ≤ 1000000) (hr : RdB w A l) :
    Calls Try.prog 23 #[rv r, wv A l c s, .bool g] w fun e w' => e = .returned (.tuple #[w0, .int .i64 1]) ∧ Below w.heap.size w w' := by
  have Hv := Lib.hid hv
  clear hv
  go_enter Try.func23, Try.ntmps23
  go_wp2_with fail
  refine (valid_no r l A c s Hv.out _ hl (((hr.alloc _).alloc _).alloc _)).mono ?_
  rintro e w1 ⟨rfl, hb1⟩
  have hW1 : Bk w1 (w.heap.size + 2) 27 #[.slice none 0 0, .bool false] := Bk.old (by (repeat (first | ((with_reducible refine Mw.Bk.new' ?_); (first | rfl | (simp; done) | (simp; omega))) | with_reducible refine Mw.Bk.alloc ?_ _ | with_reducible refine Mw.Bk.drewN ?_ _ | with_reducible refine Mw.Bk.drew ?_ | with_reducible assumption))) hb1
  have hc1 : Below w.heap.size w w1 := bl_trans (by (repeat (first | with_reducible exact Below.refl _ _ | with_reducible refine bl_drewN ?_ _ | with_reducible refine Below.drew ?_ | with_reducible refine bl_alloc ?_ _ | with_reducible refine Below.alloc ?_ (by first | omega | (simp; done) | (simp; omega)) _ | with_reducible refine Below.setCell ?_ (by first | omega | (simp; done) | (simp; omega)) _ | with_reducible assumption))) hb1
  clear hb1
  obtain ⟨⟨k0, k1⟩, f0, f1⟩ := bk2 hW1
  go_wp2_with fail
  refine bodyPost_ret (v := .tuple #[w0, .int .i64 1]) (by simp [results, Try.results23, go_sem, k0, k1]) rfl ⟨rfl, ?_⟩
  (repeat (first | with_reducible exact Below.refl _ _ | with_reducible refine bl_drewN ?_ _ | with_reducible refine Below.drew ?_ | with_reducible refine bl_alloc ?_ _ | with_reducible refine Below.alloc ?_ (by first | omega | (simp; done) | (simp; omega)) _ | with_reducible refine Below.setCell ?_ (by first | omega | (simp; done) | (simp; omega)) _ | with_reducible assumption))
set_option maxHeartbeats 400000 in
theorem step_sus (r : Rl) (l : List Bool) (A : Option Addr) (c : Nat) (g : Bool) (hv : vld r l true = true) (w : World) (hl : l.length ≤ 1000000) (hr : RdB w A l) :
    Calls Try.prog 23 #[rv r, wv A l c true, .bool g] w fun e w' => e = .returned (.tuple #[w0, .int .i64 8]) ∧ Below w.heap.size w w' := by
  have Hv := Lib.hid hv
  clear hv
  go_enter Try.func23, Try.ntmps23
  go_wp2_with fail
  refine (valid_yes r l A c true Hv.out _ hl (((hr.alloc _).alloc _).alloc _)).mono ?_
  rintro e w1 ⟨rfl, hb1⟩
  have hW1 : Bk w1 (w.heap.size + 2) 27 #[.slice none 0 0, .bool false] := Bk.old (by (repeat (first | ((with_reducible refine Mw.Bk.new' ?_); (first | rfl | (simp; done) | (simp; omega))) | with_reducible refine Mw.Bk.alloc ?_ _ | with_reducible refine Mw.Bk.drewN ?_ _ | with_reducible refine Mw.Bk.drew ?_ | with_reducible assumption))) hb1
  have hX1 : Bk w1 (w.heap.size + 1) 27 (wc A l c true) := Bk.old (by (repeat (first | ((with_reducible refine Mw.Bk.new' ?_); (first | rfl | (simp; done) | (simp; omega))) | with_reducible refine Mw.Bk.alloc ?_ _ | with_reducible refine Mw.Bk.drewN ?_ _ | with_reducible refine Mw.Bk.drew ?_ | with_reducible assumption))) hb1
  have hc1 : Below w.heap.size w w1 := bl_trans (by (repeat (first | with_reducible exact Below.refl _ _ | with_reducible refine bl_drewN ?_ _ | with_reducible refine Below.drew ?_ | with_reducible refine bl_alloc ?_ _ | with_reducible refine Below.alloc ?_ (by first | omega | (simp; done) | (simp; omega)) _ | with_reducible refine Below.setCell ?_ (by first | omega | (simp; done) | (simp; omega)) _ | with_reducible assumption))) hb1
  clear hb1
  obtain ⟨⟨k0, k1⟩, f0, f1⟩ := bk2 hW1
  obtain ⟨⟨j0, j1⟩, -⟩ := bk2 hX1
  go_wp2_with fail
  refine bodyPost_ret (v := .tuple #[w0, .int .i64 8]) (by simp [results, Try.results23, go_sem, k0, k1]) rfl ⟨rfl, ?_⟩
  (repeat (first | with_reducible exact Below.refl _ _ | with_reducible refine bl_drewN ?_ _ | with_reducible refine Below.drew ?_ | with_reducible refine bl_alloc ?_ _ | with_reducible refine Below.alloc ?_ (by first | omega | (simp; done) | (simp; omega)) _ | with_reducible refine Below.setCell ?_ (by first | omega | (simp; done) | (simp; omega)) _ | with_reducible assumption))
set_option maxHeartbeats 1000000 in
theorem step_ok (r : Rl) (l : List Bool) (A : Option Addr) (c : Nat) (g : Bool) (hv : vld r l false = true) (w : World) (hr : RdB w A l) :
    Calls Try.prog 23 #[rv r, wv A l c false, .bool g] w (StOk r l g w) := by
  obtain ⟨i0, hi, hz0, hz1, hz2⟩ := info_parts infoBool
  obtain ⟨hck, hlw⟩ := vld_chk hv
  have hcb := chk_bd hck
  have hl : l.length ≤ 20 := by omega
  have Hv := Lib.hid hv
  clear hv hck
  go_enter Try.func23, Try.ntmps23
  go_wp2_with fail
  refine (valid_yes r l A c false Hv.out _ (by omega) (((hr.alloc _).alloc _).alloc _)).mono ?_
  rintro e w1 ⟨rfl, hb1⟩
  have hW1 : Bk w1 (w.heap.size + 2) 27 #[.slice none 0 0, .bool false] := Bk.old (by (repeat (first | ((with_reducible refine Mw.Bk.new' ?_); (first | rfl | (simp; done) | (simp; omega))) | with_reducible refine Mw.Bk.alloc ?_ _ | with_reducible refine Mw.Bk.drewN ?_ _ | with_reducible refine Mw.Bk.drew ?_ | with_reducible assumption))) hb1
  have hX1 : Bk w1 (w.heap.size + 1) 27 (wc A l c false) := Bk.old (by (repeat (first | ((with_reducible refine Mw.Bk.new' ?_); (first | rfl | (simp; done) | (simp; omega))) | with_reducible refine Mw.Bk.alloc ?_ _ | with_reducible refine Mw.Bk.drewN ?_ _ | with_reducible refine Mw.Bk.drew ?_ | with_reducible assumption))) hb1
  have hR1 : Bk w1 w.heap.size 24 (rc r) := Bk.old (by (repeat (first | ((with_reducible refine Mw.Bk.new' ?_); (first | rfl | (simp; done) | (simp; omega))) | with_reducible refine Mw.Bk.alloc ?_ _ | with_reducible refine Mw.Bk.drewN ?_ _ | with_reducible refine Mw.Bk.drew ?_ | with_reducible assumption))) hb1
  have hc1 : Below w.heap.size w w1 := bl_trans (by (repeat (first | with_reducible exact Below.refl _ _ | with_reducible refine bl_drewN ?_ _ | with_reducible refine Below.drew ?_ | with_reducible refine bl_alloc ?_ _ | with_reducible refine Below.alloc ?_ (by first | omega | (simp; done) | (simp; omega)) _ | with_reducible refine Below.setCell ?_ (by first | omega | (simp; done) | (simp; omega)) _ | with_reducible assumption))) hb1
  clear hb1
  obtain ⟨⟨j0, j1⟩, -⟩ := bk2 hX1
  go_wp2_with fail
  refine (clone_any l A c _ (by omega) (hr.old hc1)).mono ?_
  rintro e w2 ⟨v2, rfl, hown2, hb2⟩
  have hW2 := hW1.old hb2
  have hR2 := hR1.old hb2
  have hc2 := bl_trans hc1 hb2
  have hz2' := hW1.lt
  have hz3' := hW2.lt
  have hs2 := hb2.size
  clear hb2 hW1 hX1 hR1 hc1 j0 j1
  go_wp2_with (at_builtin; refine wpList_append_own _ rfl _ _ 25 rfl w1.heap.size 4 i0 (.bool false) 1 1 Try.underlying25 hi hz0 hz1 hz2 rfl (by decide) _ _ _ rfl (hown2.alloc _) ⟨w2.heap.size, 0, none⟩ 1 1 [_] rfl rfl (cell_one_new _ _ _) ?c2 ?c3 ?c4 ?c5 ?_)
  case c2 => simp [Value.oneCell']
  case c3 => simp only [maxLen]; omega
  case c4 => omega
  case c5 => simp; omega
  intro v3 w3 hown' hgrow _
  obtain ⟨L, hL⟩ : ∃ L, L = l ++ [g] := ⟨_, rfl⟩
  have hLl : L.length = l.length + 1 := by rw [hL]; simp
  have hown3 : w3.ownsRow w1.heap.size 4 1 v3 L.length (L.map Value.bool) := by
    rw [hLl, hL, List.map_append]; exact hown'
  have hc3 : Below w.heap.size w w3 := Below.grown (by (repeat (first | with_reducible exact Below.refl _ _ | with_reducible refine bl_drewN ?_ _ | with_reducible refine Below.drew ?_ | with_reducible refine bl_alloc ?_ _ | with_reducible refine Below.alloc ?_ (by first | omega | (simp; done) | (simp; omega)) _ | with_reducible refine Below.setCell ?_ (by first | omega | (simp; done) | (simp; omega)) _ | with_reducible assumption))) hgrow (by have := hc2.size; simp; omega) (fun j hj => by have := (hown2.lt j hj).1; omega)
  have hW3 := (hW2.alloc (.cells #[.bool g] 4)).grown hgrow (fun e => by have := (hown2.lt _ e.symm).1; omega)
  have hR3 := (hR2.alloc (.cells #[.bool g] 4)).grown hgrow (fun e => by have := (hown2.lt _ e.symm).1; omega)
  clear hown' hgrow hown2 hc2 hW2 hR2
  obtain ⟨A3, c3, rfl, hlc3, hcm3, hr3, ha3⟩ := own_bools hown3
  have Ha3 := Lib.hid ha3
  have HL := Lib.hid hL
  clear hL ha3 hown3
  unfold maxLen at hcm3
  obtain ⟨⟨k0, k1⟩, f0, f1⟩ := bk2 hW3
  obtain ⟨⟨r0, r1, r2, r3⟩, -⟩ := bk4 hR3
  have hz4 := hW3.lt
  by_cases hlt : (l.length : Int) < r.w
  · have Hnx : Hid (nx r.w.toNat l g = L) := by unfold Hid nx; rw [show l.length + 1 - r.w.toNat = 0 by omega, HL.out]; rfl
    have hLn : (L.length : Int) ≤ r.w := by omega
    clear hLl
    go_wp2_with fail
    refine wp_loop_rounds 1 ?_
    rw [rounds_succ]
    go_wp2_with fail
    refine (failing_any r L A3 c3 _ (by omega) hr3).mono ?_
    rintro e w4 ⟨rfl, hb4⟩
    have hW4 := hW3.old hb4
    have hr4 := hr3.old hb4
    have hs4 := hb4.size
    have hc4 := bl_trans hc3 hb4
    clear hb4 k0 k1 f0 f1 hW3 r0 r1 r2 r3 hR3 hc3
    obtain ⟨⟨k0, k1⟩, f0, f1⟩ := bk2 hW4
    go_wp2_with fail
    refine bodyPost_ret (v := .tuple #[wv A3 L c3 (fl r L), .int .i64 0]) (by simp [results, Try.results23, go_sem, k0, k1]) rfl ⟨A3, c3, by rw [Hnx.out], ?_, ?_, ?_⟩
    · rw [Hnx.out]
      have hA : Away (w.heap.size + 2) A3 := fun a e => by have := (Ha3.out a e).1; omega
      exact (hr4.far hA _).far hA _
    · intro a e
      have := Ha3.out a e
      simp
      omega
    · (repeat (first | with_reducible exact Below.refl _ _ | with_reducible refine bl_drewN ?_ _ | with_reducible refine Below.drew ?_ | with_reducible refine bl_alloc ?_ _ | with_reducible refine Below.alloc ?_ (by first | omega | (simp; done) | (simp; omega)) _ | with_reducible refine Below.setCell ?_ (by first | omega | (simp; done) | (simp; omega)) _ | with_reducible assumption))
  · have Hnx : Hid (nx r.w.toNat l g = L.drop 1) := by unfold Hid nx; rw [show l.length + 1 - r.w.toNat = 1 by omega, HL.out]
    have hLn : r.w < (L.length : Int) := by omega
    have hLm : (L.length : Int) - 1 ≤ r.w := by omega
    obtain ⟨b3, o3, rfl, hb3, -⟩ := hr3 0 (by omega)
    have hr5 := hr3.tail
    have hd1 : (L.drop 1).length = l.length := by simp; omega
    have hL1 : 1 ≤ L.length := by omega
    have hc1' : ¬ c3 = 1 := by omega
    go_wp2_with fail
    refine wp_loop_rounds 2 ?_
    rw [rounds_succ]
    go_wp2_with fail
    rw [rounds_succ]
    go_wp2_with fail
    have hf := failing_any r (L.drop 1) (some ⟨b3, o3 + 1, none⟩) (c3 - 1) w3 (by omega) hr5
    rw [hd1] at hf
    refine hf.mono ?_
    clear hf
    rintro e w4 ⟨rfl, hb4⟩
    have hW4 := hW3.old hb4
    have hr4 := hr5.old hb4
    have hs4 := hb4.size
    have hc4 := bl_trans hc3 hb4
    clear hb4 k0 k1 f0 f1 hW3 r0 r1 r2 r3 hR3 hc3
    obtain ⟨⟨k0, k1⟩, f0, f1⟩ := bk2 hW4
    have Hd1 := Lib.hid hd1
    clear hd1
    go_wp2_with fail
    refine bodyPost_ret (v := .tuple #[.agg #[.slice (some ⟨b3, o3 + 1, none⟩) l.length (c3 - 1), .bool (fl r (L.drop 1))], .int .i64 0]) (by simp [results, Try.results23, go_sem, k0, k1]) rfl ⟨some ⟨b3, o3 + 1, none⟩, c3 - 1, by rw [Hnx.out]; unfold wv; rw [Hd1.out], ?_, ?_, ?_⟩
    · rw [Hnx.out]
      have hA : Away (w.heap.size + 2) (some ⟨b3, o3 + 1, none⟩) := Away.some (by have := (Ha3.out ⟨b3, o3, none⟩ rfl).1; simp only at this ⊢; omega)
      exact (hr4.far hA _).far hA _
    · intro a e
      cases e
      have := Ha3.out ⟨b3, o3, none⟩ rfl
      simp at this ⊢
      omega
    · (repeat (first | with_reducible exact Below.refl _ _ | with_reducible refine bl_drewN ?_ _ | with_reducible refine Below.drew ?_ | with_reducible refine bl_alloc ?_ _ | with_reducible refine Below.alloc ?_ (by first | omega | (simp; done) | (simp; omega)) _ | with_reducible refine Below.setCell ?_ (by first | omega | (simp; done) | (simp; omega)) _ | with_reducible assumption))

set_option maxHeartbeats 400000 in
theorem rstep_inv (r : Rl) (l : List Bool) (A : Option Addr) (c : Nat) (s g : Bool) (hv : vld r l s = false) (w : World) (hl : l.length ≤ 1000000) (hr : RdB w A l) :
    Calls Try.prog 24 #[rv r, wv A l c s, .bool g] w fun e w' => e = .returned (.tuple #[w0, .int .i64 1]) ∧ Below w.heap.size w w' := by
  have Hv := Lib.hid hv
  clear hv
  go_enter Try.func24, Try.ntmps24
  go_wp2_with fail
  refine (rvalid_no r l A c s Hv.out _ hl (((hr.alloc _).alloc _).alloc _)).mono ?_
  rintro e w1 ⟨rfl, hb1⟩
  have hW1 : Bk w1 (w.heap.size + 2) 27 #[.slice none 0 0, .bool false] := Bk.old (by (repeat (first | ((with_reducible refine Mw.Bk.new' ?_); (first | rfl | (simp; done) | (simp; omega))) | with_reducible refine Mw.Bk.alloc ?_ _ | with_reducible refine Mw.Bk.drewN ?_ _ | with_reducible refine Mw.Bk.drew ?_ | with_reducible assumption))) hb1
  have hc1 : Below w.heap.size w w1 := bl_trans (by (repeat (first | with_reducible exact Below.refl _ _ | with_reducible refine bl_drewN ?_ _ | with_reducible refine Below.drew ?_ | with_reducible refine bl_alloc ?_ _ | with_reducible refine Below.alloc ?_ (by first | omega | (simp; done) | (simp; omega)) _ | with_reducible refine Below.setCell ?_ (by first | omega | (simp; done) | (simp; omega)) _ | with_reducible assumption))) hb1
  clear hb1
  obtain ⟨⟨k0, k1⟩, f0, f1⟩ := bk2 hW1
  go_wp2_with fail
  refine bodyPost_ret (v := .tuple #[w0, .int .i64 1]) (by simp [results, Try.results24, go_sem, k0, k1]) rfl ⟨rfl, ?_⟩
  (repeat (first | with_reducible exact Below.refl _ _ | with_reducible refine bl_drewN ?_ _ | with_reducible refine Below.drew ?_ | with_reducible refine bl_alloc ?_ _ | with_reducible refine Below.alloc ?_ (by first | omega | (simp; done) | (simp; omega)) _ | with_reducible refine Below.setCell ?_ (by first | omega | (simp; done) | (simp; omega)) _ | with_reducible assumption))
set_option maxHeartbeats 400000 in
theorem rstep_sus (r : Rl) (l : List Bool) (A : Option Addr) (c : Nat) (g : Bool) (hv : vld r l true = true) (w : World) (hl : l.length ≤ 1000000) (hr : RdB w A l) :
    Calls Try.prog 24 #[rv r, wv A l c true, .bool g] w fun e w' => e = .returned (.tuple #[w0, .int .i64 8]) ∧ Below w.heap.size w w' := by
  have Hv := Lib.hid hv
  clear hv
  go_enter Try.func24, Try.ntmps24
  go_wp2_with fail
  refine (rvalid_yes r l A c true Hv.out _ hl (((hr.alloc _).alloc _).alloc _)).mono ?_
  rintro e w1 ⟨rfl, hb1⟩
  have hW1 : Bk w1 (w.heap.size + 2) 27 #[.slice none 0 0, .bool false] := Bk.old (by (repeat (first | ((with_reducible refine Mw.Bk.new' ?_); (first | rfl | (simp; done) | (simp; omega))) | with_reducible refine Mw.Bk.alloc ?_ _ | with_reducible refine Mw.Bk.drewN ?_ _ | with_reducible refine Mw.Bk.drew ?_ | with_reducible assumption))) hb1
  have hX1 : Bk w1 (w.heap.size + 1) 27 (wc A l c true) := Bk.old (by (repeat (first | ((with_reducible refine Mw.Bk.new' ?_); (first | rfl | (simp; done) | (simp; omega))) | with_reducible refine Mw.Bk.alloc ?_ _ | with_reducible refine Mw.Bk.drewN ?_ _ | with_reducible refine Mw.Bk.drew ?_ | with_reducible assumption))) hb1
  have hc1 : Below w.heap.size w w1 := bl_trans (by (repeat (first | with_reducible exact Below.refl _ _ | with_reducible refine bl_drewN ?_ _ | with_reducible refine Below.drew ?_ | with_reducible refine bl_alloc ?_ _ | with_reducible refine Below.alloc ?_ (by first | omega | (simp; done) | (simp; omega)) _ | with_reducible refine Below.setCell ?_ (by first | omega | (simp; done) | (simp; omega)) _ | with_reducible assumption))) hb1
  clear hb1
  obtain ⟨⟨k0, k1⟩, f0, f1⟩ := bk2 hW1
  obtain ⟨⟨j0, j1⟩, -⟩ := bk2 hX1
  go_wp2_with fail
  refine bodyPost_ret (v := .tuple #[w0, .int .i64 8]) (by simp [results, Try.results24, go_sem, k0, k1]) rfl ⟨rfl, ?_⟩
  (repeat (first | with_reducible exact Below.refl _ _ | with_reducible refine bl_drewN ?_ _ | with_reducible refine Below.drew ?_ | with_reducible refine bl_alloc ?_ _ | with_reducible refine Below.alloc ?_ (by first | omega | (simp; done) | (simp; omega)) _ | with_reducible refine Below.setCell ?_ (by first | omega | (simp; done) | (simp; omega)) _ | with_reducible assumption))
end Go.Proofs.Ytpgkiiaoddhdcaa.Mo
