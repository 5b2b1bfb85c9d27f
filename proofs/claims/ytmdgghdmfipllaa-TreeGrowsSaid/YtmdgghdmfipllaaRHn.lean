/- Walks: Path and Consistency again: the lists lie in new memory. -/
import Derived.Test.YtmdgghdmfipllaaRH
import Derived.WalkKit
import Derived.WalkSpells
import Derived.WalkLawsBesides
import Derived.Deep.QuietTactic
import Derived.BigQuiet
import Derived.Deep.Draws
import Derived.Deep.AppendLies
import Derived.Laws.OwnMore
import Derived.Laws.BytesArg
import Derived.Lib.Hide
import Derived.Deep.LoopGhost
import Derived.RegionTactic
namespace Go.Proofs.Ytmdgghdmfipllaa.Tr
open Go.RowKit Go.Proofs.Ytmdgghdmfipllaa.Dg
open Go.Proofs.Ytmdgghdmfipllaa.Mw (I64 ret_int ret_bool Bk bl_trans own_ints)
set_option linter.unusedVariables false
attribute [local go_sem] eq_dig

/-- A list of digests in new memory and an error. -/
def PN (x : List St × Int) (w : World) (e : Ending) (w' : World) : Prop := ∃ A c, e = .returned (.tuple #[.slice A x.1.length c, .int .i64 x.2]) ∧ x.1.length ≤ c ∧ c ≤ maxLen ∧ RdD w' A x.1 ∧ (∀ a, A = some a → w.heap.size ≤ a.block) ∧ Below w.heap.size w w'
theorem PN_nil (k : Int) (x : List St × Int) (hx : x = ([], k)) (w : World) : PN x w (.returned (.tuple #[.slice none 0 0, .int .i64 k])) w := by
  subst hx
  exact ⟨none, 0, rfl, by simp, by simp, RdD.nil _ _, fun a ha => (by cases ha), Below.refl _ _⟩
set_option maxHeartbeats 1000000 in
theorem ppath_new (l : List St) (A : Option Addr) (c : Nat) (i : Int) (w : World) (hl : l.length ≤ 1000000) (hlc : l.length ≤ c) (hcm : c ≤ maxLen) (hr : RdD w A l) :
    Calls Try.prog 11 #[.slice A l.length c, .int .i64 i] w (PN (pathE l i) w) := by
  by_cases h1 : 256 < l.length
  · have He : Hid (pathE l i = ([], 3)) := if_pos h1
    have t1 : decide ((256 : Int) < (l.length : Int)) = true := decide_eq_true (by omega)
    have t1' : decide (256 < l.length) = true := decide_eq_true h1
    clear hr
    go_enter Try.func11, Try.ntmps11
    go_wp2_with fail
    go_ret2
    exact PN_nil 3 _ He.out _
  by_cases h2 : i < 0 ∨ (l.length : Int) ≤ i
  · have He : Hid (pathE l i = ([], 4)) := by unfold Hid pathE; rw [if_neg h1, if_pos h2]
    clear hr
    rcases h2 with h2 | h2
    all_goals
      go_enter Try.func11, Try.ntmps11
      go_wp2_with fail
      all_goals
        go_ret2
        exact PN_nil 4 _ He.out _
  · obtain ⟨k, rfl⟩ := Int.eq_ofNat_of_zero_le (show 0 ≤ i by omega)
    have He : Hid (pathE l (k : Int) = (path l k, 0)) := by unfold Hid pathE; rw [if_neg h1, if_neg h2, Int.toNat_natCast]
    have HP := Lib.hid (ppath_ind _ l A c k w (Nat.le_refl _) (by omega) (by omega) hl hlc hcm hr)
    clear hr
    go_enter Try.func11, Try.ntmps11
    go_wp2_with fail
    refine HP.out.mono ?_
    rintro e w1 ⟨v, rfl, hown, hb1⟩
    obtain ⟨A1, c1, rfl, q1, q2, q3, q4⟩ := own_digs hown
    clear HP hown
    go_wp2_with fail
    go_ret2
    rw [He.out]
    exact ⟨A1, c1, rfl, q1, q2, q3, fun a ha => (q4 a ha).1, hb1⟩
set_option maxHeartbeats 1000000 in
theorem rpath_new (l : List St) (A : Option Addr) (c : Nat) (i : Int) (w : World) (hl : l.length ≤ 1000000) (hlc : l.length ≤ c) (hcm : c ≤ maxLen) (hr : RdD w A l) :
    Calls Try.prog 23 #[.slice A l.length c, .int .i64 i] w (PN (pathE l i) w) := by
  by_cases h1 : 256 < l.length
  · have He : Hid (pathE l i = ([], 3)) := if_pos h1
    have t1 : decide ((256 : Int) < (l.length : Int)) = true := decide_eq_true (by omega)
    have t1' : decide (256 < l.length) = true := decide_eq_true h1
    clear hr
    go_enter Try.func23, Try.ntmps23
    go_wp2_with fail
    go_ret2
    exact PN_nil 3 _ He.out _
  by_cases h2 : i < 0 ∨ (l.length : Int) ≤ i
  · have He : Hid (pathE l i = ([], 4)) := by unfold Hid pathE; rw [if_neg h1, if_pos h2]
    clear hr
    rcases h2 with h2 | h2
    all_goals
      go_enter Try.func23, Try.ntmps23
      go_wp2_with fail
      all_goals
        go_ret2
        exact PN_nil 4 _ He.out _
  · obtain ⟨k, rfl⟩ := Int.eq_ofNat_of_zero_le (show 0 ≤ i by omega)
    have He : Hid (pathE l (k : Int) = (path l k, 0)) := by unfold Hid pathE; rw [if_neg h1, if_neg h2, Int.toNat_natCast]
    have HP := Lib.hid (rpath_ind _ l A c k w (Nat.le_refl _) (by omega) (by omega) hl hlc hcm hr)
    clear hr
    go_enter Try.func23, Try.ntmps23
    go_wp2_with fail
    refine HP.out.mono ?_
    rintro e w1 ⟨v, rfl, hown, hb1⟩
    obtain ⟨A1, c1, rfl, q1, q2, q3, q4⟩ := own_digs hown
    clear HP hown
    go_wp2_with fail
    go_ret2
    rw [He.out]
    exact ⟨A1, c1, rfl, q1, q2, q3, fun a ha => (q4 a ha).1, hb1⟩
set_option maxHeartbeats 1000000 in
theorem pcons_new (l : List St) (A : Option Addr) (c : Nat) (i : Int) (w : World) (hl : l.length ≤ 1000000) (hlc : l.length ≤ c) (hcm : c ≤ maxLen) (hr : RdD w A l) :
    Calls Try.prog 24 #[.slice A l.length c, .int .i64 i] w (PN (consE l i) w) := by
  by_cases h1 : 256 < l.length
  · have He : Hid (consE l i = ([], 3)) := if_pos h1
    have t1 : decide ((256 : Int) < (l.length : Int)) = true := decide_eq_true (by omega)
    have t1' : decide (256 < l.length) = true := decide_eq_true h1
    clear hr
    go_enter Try.func24, Try.ntmps24
    go_wp2_with fail
    go_ret2
    exact PN_nil 3 _ He.out _
  by_cases h2 : i < 1 ∨ (l.length : Int) < i
  · have He : Hid (consE l i = ([], 4)) := by unfold Hid consE; rw [if_neg h1, if_pos h2]
    clear hr
    rcases h2 with h2 | h2
    all_goals
      go_enter Try.func24, Try.ntmps24
      go_wp2_with fail
      all_goals
        go_ret2
        exact PN_nil 4 _ He.out _
  · obtain ⟨k, rfl⟩ := Int.eq_ofNat_of_zero_le (show 0 ≤ i by omega)
    have He : Hid (consE l (k : Int) = (cons l k true, 0)) := by unfold Hid consE; rw [if_neg h1, if_neg h2, Int.toNat_natCast]
    have HP := Lib.hid (pcons_ind _ l A c k true w (Nat.le_refl _) (by omega) (by omega) hl hlc hcm hr)
    clear hr
    go_enter Try.func24, Try.ntmps24
    go_wp2_with fail
    refine HP.out.mono ?_
    rintro e w1 ⟨v, rfl, hown, hb1⟩
    obtain ⟨A1, c1, rfl, q1, q2, q3, q4⟩ := own_digs hown
    clear HP hown
    go_wp2_with fail
    go_ret2
    rw [He.out]
    exact ⟨A1, c1, rfl, q1, q2, q3, fun a ha => (q4 a ha).1, hb1⟩
set_option maxHeartbeats 1000000 in
theorem rcons_new (l : List St) (A : Option Addr) (c : Nat) (i : Int) (w : World) (hl : l.length ≤ 1000000) (hlc : l.length ≤ c) (hcm : c ≤ maxLen) (hr : RdD w A l) :
    Calls Try.prog 25 #[.slice A l.length c, .int .i64 i] w (PN (consE l i) w) := by
  by_cases h1 : 256 < l.length
  · have He : Hid (consE l i = ([], 3)) := if_pos h1
    have t1 : decide ((256 : Int) < (l.length : Int)) = true := decide_eq_true (by omega)
    have t1' : decide (256 < l.length) = true := decide_eq_true h1
    clear hr
    go_enter Try.func25, Try.ntmps25
    go_wp2_with fail
    go_ret2
    exact PN_nil 3 _ He.out _
  by_cases h2 : i < 1 ∨ (l.length : Int) < i
  · have He : Hid (consE l i = ([], 4)) := by unfold Hid consE; rw [if_neg h1, if_pos h2]
    clear hr
    rcases h2 with h2 | h2
    all_goals
      go_enter Try.func25, Try.ntmps25
      go_wp2_with fail
      all_goals
        go_ret2
        exact PN_nil 4 _ He.out _
  · obtain ⟨k, rfl⟩ := Int.eq_ofNat_of_zero_le (show 0 ≤ i by omega)
    have He : Hid (consE l (k : Int) = (cons l k true, 0)) := by unfold Hid consE; rw [if_neg h1, if_neg h2, Int.toNat_natCast]
    have HP := Lib.hid (rcons_ind _ l A c k true w (Nat.le_refl _) (by omega) (by omega) hl hlc hcm hr)
    clear hr
    go_enter Try.func25, Try.ntmps25
    go_wp2_with fail
    refine HP.out.mono ?_
    rintro e w1 ⟨v, rfl, hown, hb1⟩
    obtain ⟨A1, c1, rfl, q1, q2, q3, q4⟩ := own_digs hown
    clear HP hown
    go_wp2_with fail
    go_ret2
    rw [He.out]
    exact ⟨A1, c1, rfl, q1, q2, q3, fun a ha => (q4 a ha).1, hb1⟩
end Go.Proofs.Ytmdgghdmfipllaa.Tr
