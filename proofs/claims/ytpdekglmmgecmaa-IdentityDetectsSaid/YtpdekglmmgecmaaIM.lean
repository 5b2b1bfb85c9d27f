/- Walk: the statement IdentityBack. -/
import Derived.Test.YtpdekglmmgecmaaIL
import Derived.Test.YtpdekglmmgecmaaIP
import Derived.WalkKit
import Derived.WalkSpells
import Derived.WalkLawsBesides
import Derived.Deep.QuietTactic
import Derived.BigQuiet
import Derived.Deep.Draws
import Derived.Deep.AppendLies
import Derived.Laws.OwnMore
import Derived.Laws.BytesArg
import Derived.Lib.Hide
import Derived.Deep.LoopGhost
namespace Go.Proofs.Ytpdekglmmgecmaa.Id
open Go.RowKit
set_option linter.unusedSimpArgs false
set_option linter.unusedVariables false
set_option linter.unusedSimpArgs false

theorem format_num (m : Int) (h0 : 0 ≤ m) (h1 : m < 100000000) (w : World) :
    Calls Try.prog 13 #[idv (m / 1000000) (m / 10000 % 100) (m % 10000)] w fun e w' => e = .returned (.tuple #[.string (fmtS m), .int .i64 0]) ∧ Below w.heap.size w w' := by
  have := format_yes _ _ _ (num_vld m h0 h1) w
  rwa [num_eq m h0 h1] at this
theorem parse_num (m : Int) (h0 : 0 ≤ m) (h1 : m < 100000000) (w : World) :
    Calls Try.prog 18 #[.string (fmtS m)] w fun e w' => e = .returned (.tuple #[idv (m / 1000000) (m / 10000 % 100) (m % 10000), .int .i64 0]) ∧ Below w.heap.size w w' := by
  have := parse_any (fmtS m) (by rw [fmt_size]; decide) w
  unfold pc py pk at this
  rwa [pe_fmt, pn_fmt m h0 h1] at this
theorem parse_back (s : ByteArray) (hs : s.size ≤ maxLen) (h : pe s = 0) (w : World) :
    Calls Try.prog 18 #[.string s] w fun e w' => e = .returned (.tuple #[idv (pc s) (py s) (pk s), .int .i64 0]) ∧ Below w.heap.size w w' := by
  have := parse_any s hs w
  rwa [h] at this
theorem format_back (s : ByteArray) (h : pe s = 0) (w : World) :
    Calls Try.prog 13 #[idv (pc s) (py s) (pk s)] w fun e w' => e = .returned (.tuple #[.string s, .int .i64 0]) ∧ Below w.heap.size w w' := by
  have := format_any (pc s) (py s) (pk s) w
  rwa [(back_of s h).2, fe_of s h] at this

set_option maxHeartbeats 1000000 in
theorem back_any (n : Int) (s : ByteArray) (hn : I64 n) (hs : s.size ≤ maxLen) (w : World) :
    Calls Try.prog 5 #[.int .i64 n, .string s] w fun e w' => e = .returned (.bool true) ∧ Below w.heap.size w w' := by
  have K1 := Lib.hid (cut_any n 100000000 (by omega) (by omega) hn.1 hn.2)
  have h0 := Int.emod_nonneg n (show (100000000 : Int) ≠ 0 by omega)
  have h1 := Int.emod_lt_of_pos n (show (0 : Int) < 100000000 by omega)
  generalize n % 100000000 = m at *
  have Hs := Lib.hid hs
  clear hs hn
  by_cases hp : pe s = 0
  · have P3 := Lib.hid (parse_back s Hs.out hp)
    have P4 := Lib.hid (format_back s hp)
    clear hp
    go_enter Try.func5, Try.ntmps5
    go_wp2_with fail
    refine (K1.out _).mono ?_
    rintro e w1 ⟨rfl, rfl⟩
    go_wp2_with fail
    refine (format_num m h0 h1 _).mono ?_
    rintro e w1 ⟨rfl, hb1⟩
    have hz1 : w.heap.size + 1 ≤ w1.heap.size := by have := hb1.size; first | omega | (simp at this; omega)
    have hk1 := bcell hb1 (w.heap.size + 1) (by first | omega | (simp; done) | (simp; omega))
    have hc1 : Below w.heap.size w w1 := bl_trans (by (repeat (first | with_reducible exact Below.refl _ _ | with_reducible refine bl_drewN ?_ _ | with_reducible refine Below.drew ?_ | with_reducible refine bl_alloc ?_ _ | with_reducible refine Below.alloc ?_ (by first | omega | (simp; done) | (simp; omega)) _ | with_reducible refine Below.setCell ?_ (by first | omega | (simp; done) | (simp; omega)) _ | with_reducible assumption))) hb1
    clear hb1
    have hl1a : w.heap.size < w1.heap.size := by omega
    go_wp2_with fail
    refine (parse_num m h0 h1 _).mono ?_
    rintro e w2 ⟨rfl, hb2⟩
    have hz2 : w.heap.size + 1 ≤ w2.heap.size := by have := hb2.size; first | omega | (simp at this; omega)
    have hk2 := bcell hb2 (w.heap.size + 1) (by first | omega | (simp; done) | (simp; omega))
    have hc2 : Below w.heap.size w w2 := bl_trans (by (repeat (first | with_reducible exact Below.refl _ _ | with_reducible refine bl_drewN ?_ _ | with_reducible refine Below.drew ?_ | with_reducible refine bl_alloc ?_ _ | with_reducible refine Below.alloc ?_ (by first | omega | (simp; done) | (simp; omega)) _ | with_reducible refine Below.setCell ?_ (by first | omega | (simp; done) | (simp; omega)) _ | with_reducible assumption))) hb2
    clear hb2
    have hl2a : w.heap.size < w2.heap.size := by omega
    go_wp2_with fail
    refine (P3.out _).mono ?_
    rintro e w3 ⟨rfl, hb3⟩
    have q3 : Blk3 w3 w2.heap.size (m / 1000000) (m / 10000 % 100) (m % 10000) := Blk3.below (by unfold Blk3; go_simp) hb3 (by simp)
    obtain ⟨a0, a1, a2, _⟩ := id q3
    have l3 : w2.heap.size < w3.heap.size := by have := hb3.size; simp at this; omega
    have hz3 : w.heap.size + 1 ≤ w3.heap.size := by have := hb3.size; first | omega | (simp at this; omega)
    have hk3 := bcell hb3 (w.heap.size + 1) (by first | omega | (simp; done) | (simp; omega))
    have hc3 : Below w.heap.size w w3 := bl_trans (by (repeat (first | with_reducible exact Below.refl _ _ | with_reducible refine bl_drewN ?_ _ | with_reducible refine Below.drew ?_ | with_reducible refine bl_alloc ?_ _ | with_reducible refine Below.alloc ?_ (by first | omega | (simp; done) | (simp; omega)) _ | with_reducible refine Below.setCell ?_ (by first | omega | (simp; done) | (simp; omega)) _ | with_reducible assumption))) hb3
    clear hb3
    have hl3a : w.heap.size < w3.heap.size := by omega
    go_wp2_with fail
    refine (P4.out _).mono ?_
    rintro e w4 ⟨rfl, hb4⟩
    obtain ⟨b0, b1, b2, _⟩ : Blk3 w4 w2.heap.size (m / 1000000) (m / 10000 % 100) (m % 10000) := Blk3.below (q3.below ((Below.refl _ _).alloc (Nat.le_refl _) _) l3) hb4 (by simp; omega)
    have hz4 : w.heap.size + 1 ≤ w4.heap.size := by have := hb4.size; first | omega | (simp at this; omega)
    have hk4 := bcell hb4 (w.heap.size + 1) (by first | omega | (simp; done) | (simp; omega))
    have hc4 : Below w.heap.size w w4 := bl_trans (by (repeat (first | with_reducible exact Below.refl _ _ | with_reducible refine bl_drewN ?_ _ | with_reducible refine Below.drew ?_ | with_reducible refine bl_alloc ?_ _ | with_reducible refine Below.alloc ?_ (by first | omega | (simp; done) | (simp; omega)) _ | with_reducible refine Below.setCell ?_ (by first | omega | (simp; done) | (simp; omega)) _ | with_reducible assumption))) hb4
    clear hb4
    have hl4a : w.heap.size < w4.heap.size := by omega
    go_wp2_with fail
    refine (awake_any _).mono ?_
    rintro e w5 ⟨rfl, hb5⟩
    have hz5 : w.heap.size + 1 ≤ w5.heap.size := by have := hb5.size; first | omega | (simp at this; omega)
    have hk5 := bcell hb5 (w.heap.size + 1) (by first | omega | (simp; done) | (simp; omega))
    have hc5 : Below w.heap.size w w5 := bl_trans (by (repeat (first | with_reducible exact Below.refl _ _ | with_reducible refine bl_drewN ?_ _ | with_reducible refine Below.drew ?_ | with_reducible refine bl_alloc ?_ _ | with_reducible refine Below.alloc ?_ (by first | omega | (simp; done) | (simp; omega)) _ | with_reducible refine Below.setCell ?_ (by first | omega | (simp; done) | (simp; omega)) _ | with_reducible assumption))) hb5
    clear hb5
    have hl5a : w.heap.size < w5.heap.size := by omega
    go_wp2
    go_ret
    exact ⟨rfl, hc5⟩
  · have hq : (pe s != 0) = true := by simpa using hp
    clear hp
    go_enter Try.func5, Try.ntmps5
    go_wp2_with fail
    refine (K1.out _).mono ?_
    rintro e w1 ⟨rfl, rfl⟩
    go_wp2_with fail
    refine (format_num m h0 h1 _).mono ?_
    rintro e w1 ⟨rfl, hb1⟩
    have hz1 : w.heap.size + 1 ≤ w1.heap.size := by have := hb1.size; first | omega | (simp at this; omega)
    have hk1 := bcell hb1 (w.heap.size + 1) (by first | omega | (simp; done) | (simp; omega))
    have hc1 : Below w.heap.size w w1 := bl_trans (by (repeat (first | with_reducible exact Below.refl _ _ | with_reducible refine bl_drewN ?_ _ | with_reducible refine Below.drew ?_ | with_reducible refine bl_alloc ?_ _ | with_reducible refine Below.alloc ?_ (by first | omega | (simp; done) | (simp; omega)) _ | with_reducible refine Below.setCell ?_ (by first | omega | (simp; done) | (simp; omega)) _ | with_reducible assumption))) hb1
    clear hb1
    have hl1a : w.heap.size < w1.heap.size := by omega
    go_wp2_with fail
    refine (parse_num m h0 h1 _).mono ?_
    rintro e w2 ⟨rfl, hb2⟩
    have hz2 : w.heap.size + 1 ≤ w2.heap.size := by have := hb2.size; first | omega | (simp at this; omega)
    have hk2 := bcell hb2 (w.heap.size + 1) (by first | omega | (simp; done) | (simp; omega))
    have hc2 : Below w.heap.size w w2 := bl_trans (by (repeat (first | with_reducible exact Below.refl _ _ | with_reducible refine bl_drewN ?_ _ | with_reducible refine Below.drew ?_ | with_reducible refine bl_alloc ?_ _ | with_reducible refine Below.alloc ?_ (by first | omega | (simp; done) | (simp; omega)) _ | with_reducible refine Below.setCell ?_ (by first | omega | (simp; done) | (simp; omega)) _ | with_reducible assumption))) hb2
    clear hb2
    have hl2a : w.heap.size < w2.heap.size := by omega
    go_wp2_with fail
    refine (parse_any s Hs.out _).mono ?_
    rintro e w3 ⟨rfl, hb3⟩
    have q3 : Blk3 w3 w2.heap.size (m / 1000000) (m / 10000 % 100) (m % 10000) := Blk3.below (by unfold Blk3; go_simp) hb3 (by simp)
    have l3 : w2.heap.size < w3.heap.size := by have := hb3.size; simp at this; omega
    have hz3 : w.heap.size + 1 ≤ w3.heap.size := by have := hb3.size; first | omega | (simp at this; omega)
    have hk3 := bcell hb3 (w.heap.size + 1) (by first | omega | (simp; done) | (simp; omega))
    have hc3 : Below w.heap.size w w3 := bl_trans (by (repeat (first | with_reducible exact Below.refl _ _ | with_reducible refine bl_drewN ?_ _ | with_reducible refine Below.drew ?_ | with_reducible refine bl_alloc ?_ _ | with_reducible refine Below.alloc ?_ (by first | omega | (simp; done) | (simp; omega)) _ | with_reducible refine Below.setCell ?_ (by first | omega | (simp; done) | (simp; omega)) _ | with_reducible assumption))) hb3
    clear hb3
    have hl3a : w.heap.size < w3.heap.size := by omega
    go_wp2_with fail
    refine (format_any _ _ _ _).mono ?_
    rintro e w4 ⟨rfl, hb4⟩
    obtain ⟨b0, b1, b2, _⟩ : Blk3 w4 w2.heap.size (m / 1000000) (m / 10000 % 100) (m % 10000) := Blk3.below (q3.below ((Below.refl _ _).alloc (Nat.le_refl _) _) l3) hb4 (by simp; omega)
    have hz4 : w.heap.size + 1 ≤ w4.heap.size := by have := hb4.size; first | omega | (simp at this; omega)
    have hk4 := bcell hb4 (w.heap.size + 1) (by first | omega | (simp; done) | (simp; omega))
    have hc4 : Below w.heap.size w w4 := bl_trans (by (repeat (first | with_reducible exact Below.refl _ _ | with_reducible refine bl_drewN ?_ _ | with_reducible refine Below.drew ?_ | with_reducible refine bl_alloc ?_ _ | with_reducible refine Below.alloc ?_ (by first | omega | (simp; done) | (simp; omega)) _ | with_reducible refine Below.setCell ?_ (by first | omega | (simp; done) | (simp; omega)) _ | with_reducible assumption))) hb4
    clear hb4
    have hl4a : w.heap.size < w4.heap.size := by omega
    go_wp2_with fail
    refine (awake_any _).mono ?_
    rintro e w5 ⟨rfl, hb5⟩
    have hz5 : w.heap.size + 1 ≤ w5.heap.size := by have := hb5.size; first | omega | (simp at this; omega)
    have hk5 := bcell hb5 (w.heap.size + 1) (by first | omega | (simp; done) | (simp; omega))
    have hc5 : Below w.heap.size w w5 := bl_trans (by (repeat (first | with_reducible exact Below.refl _ _ | with_reducible refine bl_drewN ?_ _ | with_reducible refine Below.drew ?_ | with_reducible refine bl_alloc ?_ _ | with_reducible refine Below.alloc ?_ (by first | omega | (simp; done) | (simp; omega)) _ | with_reducible refine Below.setCell ?_ (by first | omega | (simp; done) | (simp; omega)) _ | with_reducible assumption))) hb5
    clear hb5
    have hl5a : w.heap.size < w5.heap.size := by omega
    go_wp2
    go_ret
    exact ⟨rfl, hc5⟩
end Go.Proofs.Ytpdekglmmgecmaa.Id
