/- Walks: Path, Lead, Consistency, Consistent of the program and of the reference. -/
import Derived.Test.YtdikoffppjoomaaGreatRE
import Derived.Test.YtdikoffppjoomaaGreatRGr
import Derived.WalkKit
import Derived.WalkSpells
import Derived.WalkLawsBesides
import Derived.Deep.QuietTactic
import Derived.BigQuiet
import Derived.Deep.Draws
import Derived.Deep.AppendLies
import Derived.Laws.OwnMore
import Derived.Laws.BytesArg
import Derived.Lib.Hide
import Derived.Deep.LoopGhost
import Derived.RegionTactic
namespace Go.Proofs.YtdikoffppjoomaaGreat.Tr
open Go.RowKit Go.Proofs.YtdikoffppjoomaaGreat.Dg
open Go.Proofs.YtdikoffppjoomaaGreat.Mw (I64 ret_int ret_bool Bk bl_trans own_ints)
set_option linter.unusedVariables false
set_option linter.unusedSimpArgs false
set_option maxRecDepth 100000
attribute [local go_sem] eq_dig

/-- What Path returns. -/
noncomputable def pathE (l : List St) (i : Int) : List St × Int := if 256 < l.length then ([], 3) else if i < 0 ∨ (l.length : Int) ≤ i then ([], 4) else (path l i.toNat, 0)
/-- What Consistency returns. -/
noncomputable def consE (l : List St) (i : Int) : List St × Int := if 256 < l.length then ([], 3) else if i < 1 ∨ (l.length : Int) < i then ([], 4) else (cons l i.toNat true, 0)
/-- What Lead returns. -/
noncomputable def leadE (lf : St) (i n : Int) (p : List St) : St × Int := if 256 < n then ((0, 0, 0, 0), 3) else if i < 0 ∨ n ≤ i then ((0, 0, 0, 0), 4) else if (lead lf i.toNat n.toNat p).2 = true then ((lead lf i.toNat n.toNat p).1, 0) else ((0, 0, 0, 0), 44)
/-- What Consistent returns. -/
noncomputable def consB (m n : Int) (old now : St) (p : List St) : Bool := if m < 1 ∨ n < m ∨ 256 < n then false else (rts m.toNat n.toNat true old p).2.2 && eqb (rts m.toNat n.toNat true old p).1 old && eqb (rts m.toNat n.toNat true old p).2.1 now
/-- A list of digests and an error. -/
def PE (x : List St × Int) (w : World) (e : Ending) (w' : World) : Prop := ∃ A c, e = .returned (.tuple #[.slice A x.1.length c, .int .i64 x.2]) ∧ x.1.length ≤ c ∧ c ≤ maxLen ∧ RdD w' A x.1 ∧ Below w.heap.size w w'
/-- A digest and an error. -/
def LE (x : St × Int) (w : World) (e : Ending) (w' : World) : Prop := e = .returned (.tuple #[dv x.1, .int .i64 x.2]) ∧ Below w.heap.size w w'
theorem PE_nil (k : Int) (x : List St × Int) (hx : x = ([], k)) (w : World) : PE x w (.returned (.tuple #[.slice none 0 0, .int .i64 k])) w := by
  subst hx
  exact ⟨none, 0, rfl, by simp, by simp, RdD.nil _ _, Below.refl _ _⟩
set_option maxHeartbeats 1000000 in
theorem ppath_any (l : List St) (A : Option Addr) (c : Nat) (i : Int) (w : World) (hl : l.length ≤ 1000000) (hlc : l.length ≤ c) (hcm : c ≤ maxLen) (hr : RdD w A l) :
    Calls Tryz.prog 58 #[.slice A l.length c, .int .i64 i] w (PE (pathE l i) w) := by
  by_cases h1 : 256 < l.length
  · have He : Hid (pathE l i = ([], 3)) := if_pos h1
    have t1 : decide ((256 : Int) < (l.length : Int)) = true := decide_eq_true (by omega)
    have t1' : decide (256 < l.length) = true := decide_eq_true h1
    clear hr
    go_enter Tryz.func58, Tryz.ntmps58
    go_wp2_with fail
    go_ret2
    exact PE_nil 3 _ He.out _
  by_cases h2 : i < 0 ∨ (l.length : Int) ≤ i
  · have He : Hid (pathE l i = ([], 4)) := by unfold Hid pathE; rw [if_neg h1, if_pos h2]
    clear hr
    rcases h2 with h2 | h2
    all_goals
      go_enter Tryz.func58, Tryz.ntmps58
      go_wp2_with fail
      all_goals
        go_ret2
        exact PE_nil 4 _ He.out _
  · obtain ⟨k, rfl⟩ := Int.eq_ofNat_of_zero_le (show 0 ≤ i by omega)
    have He : Hid (pathE l (k : Int) = (path l k, 0)) := by unfold Hid pathE; rw [if_neg h1, if_neg h2, Int.toNat_natCast]
    have HP := Lib.hid (ppath_ind _ l A c k w (Nat.le_refl _) (by omega) (by omega) hl hlc hcm hr)
    clear hr
    go_enter Tryz.func58, Tryz.ntmps58
    go_wp2_with fail
    refine HP.out.mono ?_
    rintro e w1 ⟨v, rfl, hown, hb1⟩
    obtain ⟨A1, c1, rfl, q1, q2, q3, -⟩ := own_digs hown
    clear HP hown
    go_wp2_with fail
    go_ret2
    rw [He.out]
    exact ⟨A1, c1, rfl, q1, q2, q3, hb1⟩
set_option maxHeartbeats 1000000 in
theorem rpath_any (l : List St) (A : Option Addr) (c : Nat) (i : Int) (w : World) (hl : l.length ≤ 1000000) (hlc : l.length ≤ c) (hcm : c ≤ maxLen) (hr : RdD w A l) :
    Calls Tryz.prog 15 #[.slice A l.length c, .int .i64 i] w (PE (pathE l i) w) := by
  by_cases h1 : 256 < l.length
  · have He : Hid (pathE l i = ([], 3)) := if_pos h1
    have t1 : decide ((256 : Int) < (l.length : Int)) = true := decide_eq_true (by omega)
    have t1' : decide (256 < l.length) = true := decide_eq_true h1
    clear hr
    go_enter Tryz.func15, Tryz.ntmps15
    go_wp2_with fail
    go_ret2
    exact PE_nil 3 _ He.out _
  by_cases h2 : i < 0 ∨ (l.length : Int) ≤ i
  · have He : Hid (pathE l i = ([], 4)) := by unfold Hid pathE; rw [if_neg h1, if_pos h2]
    clear hr
    rcases h2 with h2 | h2
    all_goals
      go_enter Tryz.func15, Tryz.ntmps15
      go_wp2_with fail
      all_goals
        go_ret2
        exact PE_nil 4 _ He.out _
  · obtain ⟨k, rfl⟩ := Int.eq_ofNat_of_zero_le (show 0 ≤ i by omega)
    have He : Hid (pathE l (k : Int) = (path l k, 0)) := by unfold Hid pathE; rw [if_neg h1, if_neg h2, Int.toNat_natCast]
    have HP := Lib.hid (rpath_ind _ l A c k w (Nat.le_refl _) (by omega) (by omega) hl hlc hcm hr)
    clear hr
    go_enter Tryz.func15, Tryz.ntmps15
    go_wp2_with fail
    refine HP.out.mono ?_
    rintro e w1 ⟨v, rfl, hown, hb1⟩
    obtain ⟨A1, c1, rfl, q1, q2, q3, -⟩ := own_digs hown
    clear HP hown
    go_wp2_with fail
    go_ret2
    rw [He.out]
    exact ⟨A1, c1, rfl, q1, q2, q3, hb1⟩
set_option maxHeartbeats 1000000 in
theorem pcons_any (l : List St) (A : Option Addr) (c : Nat) (i : Int) (w : World) (hl : l.length ≤ 1000000) (hlc : l.length ≤ c) (hcm : c ≤ maxLen) (hr : RdD w A l) :
    Calls Tryz.prog 79 #[.slice A l.length c, .int .i64 i] w (PE (consE l i) w) := by
  by_cases h1 : 256 < l.length
  · have He : Hid (consE l i = ([], 3)) := if_pos h1
    have t1 : decide ((256 : Int) < (l.length : Int)) = true := decide_eq_true (by omega)
    have t1' : decide (256 < l.length) = true := decide_eq_true h1
    clear hr
    go_enter Tryz.func79, Tryz.ntmps79
    go_wp2_with fail
    go_ret2
    exact PE_nil 3 _ He.out _
  by_cases h2 : i < 1 ∨ (l.length : Int) < i
  · have He : Hid (consE l i = ([], 4)) := by unfold Hid consE; rw [if_neg h1, if_pos h2]
    clear hr
    rcases h2 with h2 | h2
    all_goals
      go_enter Tryz.func79, Tryz.ntmps79
      go_wp2_with fail
      all_goals
        go_ret2
        exact PE_nil 4 _ He.out _
  · obtain ⟨k, rfl⟩ := Int.eq_ofNat_of_zero_le (show 0 ≤ i by omega)
    have He : Hid (consE l (k : Int) = (cons l k true, 0)) := by unfold Hid consE; rw [if_neg h1, if_neg h2, Int.toNat_natCast]
    have HP := Lib.hid (pcons_ind _ l A c k true w (Nat.le_refl _) (by omega) (by omega) hl hlc hcm hr)
    clear hr
    go_enter Tryz.func79, Tryz.ntmps79
    go_wp2_with fail
    refine HP.out.mono ?_
    rintro e w1 ⟨v, rfl, hown, hb1⟩
    obtain ⟨A1, c1, rfl, q1, q2, q3, -⟩ := own_digs hown
    clear HP hown
    go_wp2_with fail
    go_ret2
    rw [He.out]
    exact ⟨A1, c1, rfl, q1, q2, q3, hb1⟩
set_option maxHeartbeats 1000000 in
theorem rcons_any (l : List St) (A : Option Addr) (c : Nat) (i : Int) (w : World) (hl : l.length ≤ 1000000) (hlc : l.length ≤ c) (hcm : c ≤ maxLen) (hr : RdD w A l) :
    Calls Tryz.prog 80 #[.slice A l.length c, .int .i64 i] w (PE (consE l i) w) := by
  by_cases h1 : 256 < l.length
  · have He : Hid (consE l i = ([], 3)) := if_pos h1
    have t1 : decide ((256 : Int) < (l.length : Int)) = true := decide_eq_true (by omega)
    have t1' : decide (256 < l.length) = true := decide_eq_true h1
    clear hr
    go_enter Tryz.func80, Tryz.ntmps80
    go_wp2_with fail
    go_ret2
    exact PE_nil 3 _ He.out _
  by_cases h2 : i < 1 ∨ (l.length : Int) < i
  · have He : Hid (consE l i = ([], 4)) := by unfold Hid consE; rw [if_neg h1, if_pos h2]
    clear hr
    rcases h2 with h2 | h2
    all_goals
      go_enter Tryz.func80, Tryz.ntmps80
      go_wp2_with fail
      all_goals
        go_ret2
        exact PE_nil 4 _ He.out _
  · obtain ⟨k, rfl⟩ := Int.eq_ofNat_of_zero_le (show 0 ≤ i by omega)
    have He : Hid (consE l (k : Int) = (cons l k true, 0)) := by unfold Hid consE; rw [if_neg h1, if_neg h2, Int.toNat_natCast]
    have HP := Lib.hid (rcons_ind _ l A c k true w (Nat.le_refl _) (by omega) (by omega) hl hlc hcm hr)
    clear hr
    go_enter Tryz.func80, Tryz.ntmps80
    go_wp2_with fail
    refine HP.out.mono ?_
    rintro e w1 ⟨v, rfl, hown, hb1⟩
    obtain ⟨A1, c1, rfl, q1, q2, q3, -⟩ := own_digs hown
    clear HP hown
    go_wp2_with fail
    go_ret2
    rw [He.out]
    exact ⟨A1, c1, rfl, q1, q2, q3, hb1⟩
set_option maxHeartbeats 1000000 in
theorem plead_any (lf : St) (i n : Int) (p : List St) (A : Option Addr) (c : Nat) (w : World) (hl : p.length ≤ 1000000) (hlc : p.length ≤ c) (hcm : c ≤ maxLen) (hr : RdD w A p) :
    Calls Tryz.prog 96 #[dv lf, .int .i64 i, .int .i64 n, .slice A p.length c] w (LE (leadE lf i n p) w) := by
  by_cases h1 : 256 < n
  · have He : Hid (leadE lf i n p = ((0, 0, 0, 0), 3)) := if_pos h1
    clear hr
    go_enter Tryz.func96, Tryz.ntmps96
    go_wp2_with fail
    refine bodyPost_ret (v := .tuple #[dv (0, 0, 0, 0), .int .i64 3]) (by simp [results, Tryz.results96, go_sem]) rfl ⟨by rw [He.out], ?_⟩
    (repeat (first | with_reducible exact Below.refl _ _ | with_reducible refine bl_drewN ?_ _ | with_reducible refine Below.drew ?_ | with_reducible refine bl_alloc ?_ _ | with_reducible refine Below.alloc ?_ (by first | omega | (simp; done) | (simp; omega)) _ | with_reducible refine Below.setCell ?_ (by first | omega | (simp; done) | (simp; omega)) _ | with_reducible assumption))
  by_cases h2 : i < 0 ∨ n ≤ i
  · have He : Hid (leadE lf i n p = ((0, 0, 0, 0), 4)) := by unfold Hid leadE; rw [if_neg h1, if_pos h2]
    clear hr
    rcases h2 with h2 | h2
    all_goals
      go_enter Tryz.func96, Tryz.ntmps96
      go_wp2_with fail
      all_goals
        refine bodyPost_ret (v := .tuple #[dv (0, 0, 0, 0), .int .i64 4]) (by simp [results, Tryz.results96, go_sem]) rfl ⟨by rw [He.out], ?_⟩
        (repeat (first | with_reducible exact Below.refl _ _ | with_reducible refine bl_drewN ?_ _ | with_reducible refine Below.drew ?_ | with_reducible refine bl_alloc ?_ _ | with_reducible refine Below.alloc ?_ (by first | omega | (simp; done) | (simp; omega)) _ | with_reducible refine Below.setCell ?_ (by first | omega | (simp; done) | (simp; omega)) _ | with_reducible assumption))
  · obtain ⟨k, rfl⟩ := Int.eq_ofNat_of_zero_le (show 0 ≤ i by omega)
    obtain ⟨m, rfl⟩ := Int.eq_ofNat_of_zero_le (show 0 ≤ n by omega)
    have hE : leadE lf (k : Int) (m : Int) p = if (lead lf k m p).2 = true then ((lead lf k m p).1, 0) else ((0, 0, 0, 0), 44) := by
      unfold leadE; rw [if_neg h1, if_neg h2, Int.toNat_natCast, Int.toNat_natCast]
    have HP := Lib.hid (show ∀ W : World, Below w.heap.size w W → Calls Tryz.prog 117 #[dv lf, .int .i64 (k : Int), .int .i64 (m : Int), .slice A p.length c] W (LD (lead lf k m p) W) from fun W hW => plead_ind _ lf k m p A c W (Nat.le_refl _) (by omega) (by omega) hl hlc hcm (hr.old hW))
    generalize lead lf k m p = X at hE HP
    obtain ⟨x, xb⟩ := X
    clear hr
    have hb0 : Below w.heap.size w ((w.alloc (.cells (c4 lf) 35)).alloc (.cells z4 35)) := by (repeat (first | with_reducible exact Below.refl _ _ | with_reducible refine bl_drewN ?_ _ | with_reducible refine Below.drew ?_ | with_reducible refine bl_alloc ?_ _ | with_reducible refine Below.alloc ?_ (by first | omega | (simp; done) | (simp; omega)) _ | with_reducible refine Below.setCell ?_ (by first | omega | (simp; done) | (simp; omega)) _ | with_reducible assumption))
    cases xb
    · have He : Hid (leadE lf (k : Int) (m : Int) p = ((0, 0, 0, 0), 44)) := by unfold Hid; rw [hE]; simp
      clear hE
      go_enter Tryz.func96, Tryz.ntmps96
      go_wp2_with fail
      ((with_reducible refine (HP.out _ hb0).mono ?_); rintro e w1 ⟨rfl, hb1⟩)
      have hZ1 : Bk w1 (w.heap.size + 1) 35 z4 := Mw.Bk.old (by (repeat (first | ((with_reducible refine Mw.Bk.new' ?_); (first | rfl | (simp; done) | (simp; omega))) | with_reducible refine Mw.Bk.alloc ?_ _ | with_reducible refine Mw.Bk.drewN ?_ _ | with_reducible refine Mw.Bk.drew ?_ | with_reducible assumption))) hb1
      have hc1 := bl_trans hb0 hb1
      clear HP hb1 hb0
      obtain ⟨⟨k0, k1, k2, k3⟩, f0, f1, f2, f3⟩ := bk4 hZ1
      have m0 := hZ1.lt
      go_wp2_with fail
      refine bodyPost_ret (v := .tuple #[dv (0, 0, 0, 0), .int .i64 44]) (by simp [results, Tryz.results96, go_sem, k0, k1, k2, k3, m0]) rfl ⟨by rw [He.out], ?_⟩
      (repeat (first | with_reducible exact Below.refl _ _ | with_reducible refine bl_drewN ?_ _ | with_reducible refine Below.drew ?_ | with_reducible refine bl_alloc ?_ _ | with_reducible refine Below.alloc ?_ (by first | omega | (simp; done) | (simp; omega)) _ | with_reducible refine Below.setCell ?_ (by first | omega | (simp; done) | (simp; omega)) _ | with_reducible assumption))
    · have He : Hid (leadE lf (k : Int) (m : Int) p = (x, 0)) := by unfold Hid; rw [hE]; simp
      clear hE
      go_enter Tryz.func96, Tryz.ntmps96
      go_wp2_with fail
      ((with_reducible refine (HP.out _ hb0).mono ?_); rintro e w1 ⟨rfl, hb1⟩)
      have hZ1 : Bk w1 (w.heap.size + 1) 35 z4 := Mw.Bk.old (by (repeat (first | ((with_reducible refine Mw.Bk.new' ?_); (first | rfl | (simp; done) | (simp; omega))) | with_reducible refine Mw.Bk.alloc ?_ _ | with_reducible refine Mw.Bk.drewN ?_ _ | with_reducible refine Mw.Bk.drew ?_ | with_reducible assumption))) hb1
      have hc1 := bl_trans hb0 hb1
      clear HP hb1 hb0
      obtain ⟨⟨k0, k1, k2, k3⟩, f0, f1, f2, f3⟩ := bk4 hZ1
      have m0 := hZ1.lt
      go_wp2_with fail
      refine bodyPost_ret (v := .tuple #[dv x, .int .i64 0]) (by simp [results, Tryz.results96, go_sem, k0, k1, k2, k3, m0]) rfl ⟨by rw [He.out], ?_⟩
      (repeat (first | with_reducible exact Below.refl _ _ | with_reducible refine bl_drewN ?_ _ | with_reducible refine Below.drew ?_ | with_reducible refine bl_alloc ?_ _ | with_reducible refine Below.alloc ?_ (by first | omega | (simp; done) | (simp; omega)) _ | with_reducible refine Below.setCell ?_ (by first | omega | (simp; done) | (simp; omega)) _ | with_reducible assumption))
set_option maxHeartbeats 1000000 in
theorem rlead_any (lf : St) (i n : Int) (p : List St) (A : Option Addr) (c : Nat) (w : World) (hl : p.length ≤ 1000000) (hlc : p.length ≤ c) (hcm : c ≤ maxLen) (hr : RdD w A p) :
    Calls Tryz.prog 64 #[dv lf, .int .i64 i, .int .i64 n, .slice A p.length c] w (LE (leadE lf i n p) w) := by
  by_cases h1 : 256 < n
  · have He : Hid (leadE lf i n p = ((0, 0, 0, 0), 3)) := if_pos h1
    clear hr
    go_enter Tryz.func64, Tryz.ntmps64
    go_wp2_with fail
    refine bodyPost_ret (v := .tuple #[dv (0, 0, 0, 0), .int .i64 3]) (by simp [results, Tryz.results64, go_sem]) rfl ⟨by rw [He.out], ?_⟩
    (repeat (first | with_reducible exact Below.refl _ _ | with_reducible refine bl_drewN ?_ _ | with_reducible refine Below.drew ?_ | with_reducible refine bl_alloc ?_ _ | with_reducible refine Below.alloc ?_ (by first | omega | (simp; done) | (simp; omega)) _ | with_reducible refine Below.setCell ?_ (by first | omega | (simp; done) | (simp; omega)) _ | with_reducible assumption))
  by_cases h2 : i < 0 ∨ n ≤ i
  · have He : Hid (leadE lf i n p = ((0, 0, 0, 0), 4)) := by unfold Hid leadE; rw [if_neg h1, if_pos h2]
    clear hr
    rcases h2 with h2 | h2
    all_goals
      go_enter Tryz.func64, Tryz.ntmps64
      go_wp2_with fail
      all_goals
        refine bodyPost_ret (v := .tuple #[dv (0, 0, 0, 0), .int .i64 4]) (by simp [results, Tryz.results64, go_sem]) rfl ⟨by rw [He.out], ?_⟩
        (repeat (first | with_reducible exact Below.refl _ _ | with_reducible refine bl_drewN ?_ _ | with_reducible refine Below.drew ?_ | with_reducible refine bl_alloc ?_ _ | with_reducible refine Below.alloc ?_ (by first | omega | (simp; done) | (simp; omega)) _ | with_reducible refine Below.setCell ?_ (by first | omega | (simp; done) | (simp; omega)) _ | with_reducible assumption))
  · obtain ⟨k, rfl⟩ := Int.eq_ofNat_of_zero_le (show 0 ≤ i by omega)
    obtain ⟨m, rfl⟩ := Int.eq_ofNat_of_zero_le (show 0 ≤ n by omega)
    have hE : leadE lf (k : Int) (m : Int) p = if (lead lf k m p).2 = true then ((lead lf k m p).1, 0) else ((0, 0, 0, 0), 44) := by
      unfold leadE; rw [if_neg h1, if_neg h2, Int.toNat_natCast, Int.toNat_natCast]
    have HP := Lib.hid (show ∀ W : World, Below w.heap.size w W → Calls Tryz.prog 100 #[dv lf, .int .i64 (k : Int), .int .i64 (m : Int), .slice A p.length c] W (LD (lead lf k m p) W) from fun W hW => rlead_ind _ lf k m p A c W (Nat.le_refl _) (by omega) (by omega) hl hlc hcm (hr.old hW))
    generalize lead lf k m p = X at hE HP
    obtain ⟨x, xb⟩ := X
    clear hr
    have hb0 : Below w.heap.size w ((w.alloc (.cells (c4 lf) 35)).alloc (.cells z4 35)) := by (repeat (first | with_reducible exact Below.refl _ _ | with_reducible refine bl_drewN ?_ _ | with_reducible refine Below.drew ?_ | with_reducible refine bl_alloc ?_ _ | with_reducible refine Below.alloc ?_ (by first | omega | (simp; done) | (simp; omega)) _ | with_reducible refine Below.setCell ?_ (by first | omega | (simp; done) | (simp; omega)) _ | with_reducible assumption))
    cases xb
    · have He : Hid (leadE lf (k : Int) (m : Int) p = ((0, 0, 0, 0), 44)) := by unfold Hid; rw [hE]; simp
      clear hE
      go_enter Tryz.func64, Tryz.ntmps64
      go_wp2_with fail
      ((with_reducible refine (HP.out _ hb0).mono ?_); rintro e w1 ⟨rfl, hb1⟩)
      have hZ1 : Bk w1 (w.heap.size + 1) 35 z4 := Mw.Bk.old (by (repeat (first | ((with_reducible refine Mw.Bk.new' ?_); (first | rfl | (simp; done) | (simp; omega))) | with_reducible refine Mw.Bk.alloc ?_ _ | with_reducible refine Mw.Bk.drewN ?_ _ | with_reducible refine Mw.Bk.drew ?_ | with_reducible assumption))) hb1
      have hc1 := bl_trans hb0 hb1
      clear HP hb1 hb0
      obtain ⟨⟨k0, k1, k2, k3⟩, f0, f1, f2, f3⟩ := bk4 hZ1
      have m0 := hZ1.lt
      go_wp2_with fail
      refine bodyPost_ret (v := .tuple #[dv (0, 0, 0, 0), .int .i64 44]) (by simp [results, Tryz.results64, go_sem, k0, k1, k2, k3, m0]) rfl ⟨by rw [He.out], ?_⟩
      (repeat (first | with_reducible exact Below.refl _ _ | with_reducible refine bl_drewN ?_ _ | with_reducible refine Below.drew ?_ | with_reducible refine bl_alloc ?_ _ | with_reducible refine Below.alloc ?_ (by first | omega | (simp; done) | (simp; omega)) _ | with_reducible refine Below.setCell ?_ (by first | omega | (simp; done) | (simp; omega)) _ | with_reducible assumption))
    · have He : Hid (leadE lf (k : Int) (m : Int) p = (x, 0)) := by unfold Hid; rw [hE]; simp
      clear hE
      go_enter Tryz.func64, Tryz.ntmps64
      go_wp2_with fail
      ((with_reducible refine (HP.out _ hb0).mono ?_); rintro e w1 ⟨rfl, hb1⟩)
      have hZ1 : Bk w1 (w.heap.size + 1) 35 z4 := Mw.Bk.old (by (repeat (first | ((with_reducible refine Mw.Bk.new' ?_); (first | rfl | (simp; done) | (simp; omega))) | with_reducible refine Mw.Bk.alloc ?_ _ | with_reducible refine Mw.Bk.drewN ?_ _ | with_reducible refine Mw.Bk.drew ?_ | with_reducible assumption))) hb1
      have hc1 := bl_trans hb0 hb1
      clear HP hb1 hb0
      obtain ⟨⟨k0, k1, k2, k3⟩, f0, f1, f2, f3⟩ := bk4 hZ1
      have m0 := hZ1.lt
      go_wp2_with fail
      refine bodyPost_ret (v := .tuple #[dv x, .int .i64 0]) (by simp [results, Tryz.results64, go_sem, k0, k1, k2, k3, m0]) rfl ⟨by rw [He.out], ?_⟩
      (repeat (first | with_reducible exact Below.refl _ _ | with_reducible refine bl_drewN ?_ _ | with_reducible refine Below.drew ?_ | with_reducible refine bl_alloc ?_ _ | with_reducible refine Below.alloc ?_ (by first | omega | (simp; done) | (simp; omega)) _ | with_reducible refine Below.setCell ?_ (by first | omega | (simp; done) | (simp; omega)) _ | with_reducible assumption))
set_option maxHeartbeats 1000000 in
theorem pconsist_any (m n : Int) (old now : St) (p : List St) (A : Option Addr) (c : Nat) (w : World) (hl : p.length ≤ 1000000) (hlc : p.length ≤ c) (hcm : c ≤ maxLen) (hr : RdD w A p) :
    Calls Tryz.prog 81 #[.int .i64 m, .int .i64 n, dv old, dv now, .slice A p.length c] w fun e w' => e = .returned (.bool (consB m n old now p)) ∧ Below w.heap.size w w' := by
  by_cases h1 : m < 1 ∨ n < m ∨ 256 < n
  · have He : Hid (consB m n old now p = false) := if_pos h1
    clear hr
    rcases h1 with h1 | h1 | h1
    all_goals
      go_enter Tryz.func81, Tryz.ntmps81
      go_wp2_with fail
      all_goals
        go_ret
        exact ⟨ret_bool He.out.symm, by (repeat (first | with_reducible exact Below.refl _ _ | with_reducible refine bl_drewN ?_ _ | with_reducible refine Below.drew ?_ | with_reducible refine bl_alloc ?_ _ | with_reducible refine Below.alloc ?_ (by first | omega | (simp; done) | (simp; omega)) _ | with_reducible refine Below.setCell ?_ (by first | omega | (simp; done) | (simp; omega)) _ | with_reducible assumption))⟩
  · obtain ⟨a, rfl⟩ := Int.eq_ofNat_of_zero_le (show 0 ≤ m by omega)
    obtain ⟨b, rfl⟩ := Int.eq_ofNat_of_zero_le (show 0 ≤ n by omega)
    have hE : consB (a : Int) (b : Int) old now p = ((rts a b true old p).2.2 && eqb (rts a b true old p).1 old && eqb (rts a b true old p).2.1 now) := by
      unfold consB; rw [if_neg h1, Int.toNat_natCast, Int.toNat_natCast]
    have HP := Lib.hid (show ∀ W : World, Below w.heap.size w W → Calls Tryz.prog 110 #[.int .i64 (a : Int), .int .i64 (b : Int), .bool true, dv old, .slice A p.length c] W (RT (rts a b true old p) W) from fun W hW => prts_ind _ a b true old p A c W (Nat.le_refl _) (by omega) (by omega) (by omega) hl hlc hcm (hr.old hW))
    generalize rts a b true old p = X at hE HP
    obtain ⟨x, y, xb⟩ := X
    have He := Lib.hid hE
    clear hr hE
    have hb0 : Below w.heap.size w ((w.alloc (.cells (c4 old) 35)).alloc (.cells (c4 now) 35)) := by (repeat (first | with_reducible exact Below.refl _ _ | with_reducible refine bl_drewN ?_ _ | with_reducible refine Below.drew ?_ | with_reducible refine bl_alloc ?_ _ | with_reducible refine Below.alloc ?_ (by first | omega | (simp; done) | (simp; omega)) _ | with_reducible refine Below.setCell ?_ (by first | omega | (simp; done) | (simp; omega)) _ | with_reducible assumption))
    have g1 : ¬ (a : Int) < 1 := by omega
    have g2 : ¬ (b : Int) < (a : Int) := by omega
    have g3 : ¬ (256 : Int) < (b : Int) := by omega
    cases xb
    all_goals
      go_enter Tryz.func81, Tryz.ntmps81
      go_wp2_with fail
      ((with_reducible refine (HP.out _ hb0).mono ?_); rintro e w1 ⟨rfl, hb1⟩)
      have hZ1 : Bk w1 w.heap.size 35 (c4 old) := Mw.Bk.old (by (repeat (first | ((with_reducible refine Mw.Bk.new' ?_); (first | rfl | (simp; done) | (simp; omega))) | with_reducible refine Mw.Bk.alloc ?_ _ | with_reducible refine Mw.Bk.drewN ?_ _ | with_reducible refine Mw.Bk.drew ?_ | with_reducible assumption))) hb1
      have hY1 : Bk w1 (w.heap.size + 1) 35 (c4 now) := Mw.Bk.old (by (repeat (first | ((with_reducible refine Mw.Bk.new' ?_); (first | rfl | (simp; done) | (simp; omega))) | with_reducible refine Mw.Bk.alloc ?_ _ | with_reducible refine Mw.Bk.drewN ?_ _ | with_reducible refine Mw.Bk.drew ?_ | with_reducible assumption))) hb1
      have hc1 := bl_trans hb0 hb1
      clear HP hb1 hb0
      obtain ⟨⟨k0, k1, k2, k3⟩, -⟩ := bk4 hZ1
      obtain ⟨⟨j0, j1, j2, j3⟩, -⟩ := bk4 hY1
      have m0 := hZ1.lt
      have m1 := hY1.lt
      go_wp2_with fail
      all_goals
        go_ret
        refine ⟨ret_bool ?_, by (repeat (first | with_reducible exact Below.refl _ _ | with_reducible refine bl_drewN ?_ _ | with_reducible refine Below.drew ?_ | with_reducible refine bl_alloc ?_ _ | with_reducible refine Below.alloc ?_ (by first | omega | (simp; done) | (simp; omega)) _ | with_reducible refine Below.setCell ?_ (by first | omega | (simp; done) | (simp; omega)) _ | with_reducible assumption))⟩
        rw [He.out]
        simp_all
set_option maxHeartbeats 1000000 in
theorem rconsist_any (m n : Int) (old now : St) (p : List St) (A : Option Addr) (c : Nat) (w : World) (hl : p.length ≤ 1000000) (hlc : p.length ≤ c) (hcm : c ≤ maxLen) (hr : RdD w A p) :
    Calls Tryz.prog 82 #[.int .i64 m, .int .i64 n, dv old, dv now, .slice A p.length c] w fun e w' => e = .returned (.bool (consB m n old now p)) ∧ Below w.heap.size w w' := by
  by_cases h1 : m < 1 ∨ n < m ∨ 256 < n
  · have He : Hid (consB m n old now p = false) := if_pos h1
    clear hr
    rcases h1 with h1 | h1 | h1
    all_goals
      go_enter Tryz.func82, Tryz.ntmps82
      go_wp2_with fail
      all_goals
        go_ret
        exact ⟨ret_bool He.out.symm, by (repeat (first | with_reducible exact Below.refl _ _ | with_reducible refine bl_drewN ?_ _ | with_reducible refine Below.drew ?_ | with_reducible refine bl_alloc ?_ _ | with_reducible refine Below.alloc ?_ (by first | omega | (simp; done) | (simp; omega)) _ | with_reducible refine Below.setCell ?_ (by first | omega | (simp; done) | (simp; omega)) _ | with_reducible assumption))⟩
  · obtain ⟨a, rfl⟩ := Int.eq_ofNat_of_zero_le (show 0 ≤ m by omega)
    obtain ⟨b, rfl⟩ := Int.eq_ofNat_of_zero_le (show 0 ≤ n by omega)
    have hE : consB (a : Int) (b : Int) old now p = ((rts a b true old p).2.2 && eqb (rts a b true old p).1 old && eqb (rts a b true old p).2.1 now) := by
      unfold consB; rw [if_neg h1, Int.toNat_natCast, Int.toNat_natCast]
    have HP := Lib.hid (show ∀ W : World, Below w.heap.size w W → Calls Tryz.prog 111 #[.int .i64 (a : Int), .int .i64 (b : Int), dv old, .slice A p.length c, .bool true] W (RT (rts a b true old p) W) from fun W hW => rrts_ind _ a b true old p A c W (Nat.le_refl _) (by omega) (by omega) (by omega) hl hlc hcm (hr.old hW))
    generalize rts a b true old p = X at hE HP
    obtain ⟨x, y, xb⟩ := X
    have He := Lib.hid hE
    clear hr hE
    have hb0 : Below w.heap.size w ((w.alloc (.cells (c4 old) 35)).alloc (.cells (c4 now) 35)) := by (repeat (first | with_reducible exact Below.refl _ _ | with_reducible refine bl_drewN ?_ _ | with_reducible refine Below.drew ?_ | with_reducible refine bl_alloc ?_ _ | with_reducible refine Below.alloc ?_ (by first | omega | (simp; done) | (simp; omega)) _ | with_reducible refine Below.setCell ?_ (by first | omega | (simp; done) | (simp; omega)) _ | with_reducible assumption))
    have g1 : ¬ (a : Int) < 1 := by omega
    have g2 : ¬ (b : Int) < (a : Int) := by omega
    have g3 : ¬ (256 : Int) < (b : Int) := by omega
    cases xb
    all_goals
      go_enter Tryz.func82, Tryz.ntmps82
      go_wp2_with fail
      ((with_reducible refine (HP.out _ hb0).mono ?_); rintro e w1 ⟨rfl, hb1⟩)
      have hZ1 : Bk w1 w.heap.size 35 (c4 old) := Mw.Bk.old (by (repeat (first | ((with_reducible refine Mw.Bk.new' ?_); (first | rfl | (simp; done) | (simp; omega))) | with_reducible refine Mw.Bk.alloc ?_ _ | with_reducible refine Mw.Bk.drewN ?_ _ | with_reducible refine Mw.Bk.drew ?_ | with_reducible assumption))) hb1
      have hY1 : Bk w1 (w.heap.size + 1) 35 (c4 now) := Mw.Bk.old (by (repeat (first | ((with_reducible refine Mw.Bk.new' ?_); (first | rfl | (simp; done) | (simp; omega))) | with_reducible refine Mw.Bk.alloc ?_ _ | with_reducible refine Mw.Bk.drewN ?_ _ | with_reducible refine Mw.Bk.drew ?_ | with_reducible assumption))) hb1
      have hc1 := bl_trans hb0 hb1
      clear HP hb1 hb0
      obtain ⟨⟨k0, k1, k2, k3⟩, -⟩ := bk4 hZ1
      obtain ⟨⟨j0, j1, j2, j3⟩, -⟩ := bk4 hY1
      have m0 := hZ1.lt
      have m1 := hY1.lt
      go_wp2_with fail
      all_goals
        go_ret
        refine ⟨ret_bool ?_, by (repeat (first | with_reducible exact Below.refl _ _ | with_reducible refine bl_drewN ?_ _ | with_reducible refine Below.drew ?_ | with_reducible refine bl_alloc ?_ _ | with_reducible refine Below.alloc ?_ (by first | omega | (simp; done) | (simp; omega)) _ | with_reducible refine Below.setCell ?_ (by first | omega | (simp; done) | (simp; omega)) _ | with_reducible assumption))⟩
        rw [He.out]
        simp_all
end Go.Proofs.YtdikoffppjoomaaGreat.Tr
