/- Walks: which bytes may stand in a candidate number; which IDs are valid. -/
import Derived.Test.YtpdekglmmgecmaaIB
import Derived.Test.YtpdekglmmgecmaaShelf
import Derived.WalkKit
import Derived.WalkSpells
import Derived.WalkLawsBesides
import Derived.Deep.QuietTactic
import Derived.BigQuiet
import Derived.Deep.Draws
import Derived.Deep.AppendLies
import Derived.Laws.OwnMore
import Derived.Laws.BytesArg
import Derived.Lib.Hide
import Derived.Deep.LoopGhost
namespace Go.Proofs.Ytpdekglmmgecmaa.Id
open Go.RowKit
set_option linter.unusedSimpArgs false

/-- Which IDs are valid. -/
def vldB (c y k : Int) : Bool := decide (0 ≤ c ∧ c ≤ 99 ∧ 0 ≤ y ∧ y ≤ 99 ∧ 0 ≤ k ∧ k ≤ 9999)
/-- The value of an ID. -/
abbrev idv (c y k : Int) : Value := .agg #[.int .i64 c, .int .i64 y, .int .i64 k]

set_option maxHeartbeats 400000 in
theorem valid_any (c y k : Int) (w : World) :
    Calls Try.prog 15 #[idv c y k] w fun e w' => e = .returned (.bool (vldB c y k)) ∧ Below w.heap.size w w' := by
  go_enter Try.func15, Try.ntmps15
  go_wp2
  all_goals (go_ret; exact ⟨ret_bool (by rw [Bool.eq_iff_iff]; simp only [vldB, decide_eq_true_eq, Bool.false_eq_true, true_iff, iff_true, false_iff, iff_false]; omega), by first | rfl | (repeat (first | with_reducible exact Below.refl _ _ | with_reducible refine bl_drewN ?_ _ | with_reducible refine Below.drew ?_ | with_reducible refine bl_alloc ?_ _ | with_reducible refine Below.alloc ?_ (by first | omega | (simp; done) | (simp; omega)) _ | with_reducible refine Below.setCell ?_ (by first | omega | (simp; done) | (simp; omega)) _ | with_reducible assumption))⟩)

set_option maxHeartbeats 400000 in
theorem rvalid_any (c y k : Int) (w : World) :
    Calls Try.prog 16 #[idv c y k] w fun e w' => e = .returned (.bool (vldB c y k)) ∧ Below w.heap.size w w' := by
  go_enter Try.func16, Try.ntmps16
  go_wp2
  all_goals (go_ret; exact ⟨ret_bool (by rw [Bool.eq_iff_iff]; simp only [vldB, decide_eq_true_eq, Bool.false_eq_true, true_iff, iff_true, false_iff, iff_false]; omega), by first | rfl | (repeat (first | with_reducible exact Below.refl _ _ | with_reducible refine bl_drewN ?_ _ | with_reducible refine Below.drew ?_ | with_reducible refine bl_alloc ?_ _ | with_reducible refine Below.alloc ?_ (by first | omega | (simp; done) | (simp; omega)) _ | with_reducible refine Below.setCell ?_ (by first | omega | (simp; done) | (simp; omega)) _ | with_reducible assumption))⟩)

def digB (c : Int) : Bool := decide (48 ≤ c ∧ c ≤ 57)
def letB (c : Int) : Bool := LETS.contains c
def fitB (i c : Int) : Bool := if i < 8 then digB c else letB c

set_option maxHeartbeats 400000 in
theorem isDigit_any (c : Int) (w : World) :
    Calls Try.prog 33 #[.int .u8 c] w fun e w' => e = .returned (.bool (digB c)) ∧ w = w' := by
  go_enter Try.func33, Try.ntmps33
  go_wp2
  all_goals (go_ret; exact ⟨ret_bool (by rw [Bool.eq_iff_iff]; simp only [digB, decide_eq_true_eq, Bool.false_eq_true, true_iff, iff_true, false_iff, iff_false]; omega), by first | rfl | (repeat (first | with_reducible exact Below.refl _ _ | with_reducible refine bl_drewN ?_ _ | with_reducible refine Below.drew ?_ | with_reducible refine bl_alloc ?_ _ | with_reducible refine Below.alloc ?_ (by first | omega | (simp; done) | (simp; omega)) _ | with_reducible refine Below.setCell ?_ (by first | omega | (simp; done) | (simp; omega)) _ | with_reducible assumption))⟩)

theorem letB_eq' : ∀ k : Fin 256, decide (0 ≤ Lib.indexByte [65, 66, 67, 68, 69, 70, 71, 72, 74, 75, 76, 77, 78, 80, 81, 82, 83, 84, 85, 86, 87, 88, 89] (((k.val : Nat) : Int).toNat.toUInt8)) = letB ((k.val : Nat) : Int) := by decide +kernel
theorem letB_eq (c : Int) (h0 : 0 ≤ c) (h1 : c ≤ 255) : decide (0 ≤ Lib.indexByte [65, 66, 67, 68, 69, 70, 71, 72, 74, 75, 76, 77, 78, 80, 81, 82, 83, 84, 85, 86, 87, 88, 89] (c.toNat.toUInt8)) = letB c := by
  obtain ⟨m, rfl⟩ := Int.eq_ofNat_of_zero_le h0
  exact letB_eq' ⟨m, by omega⟩

set_option maxHeartbeats 400000 in
theorem isLetter_any (c : Int) (h0 : 0 ≤ c) (h1 : c ≤ 255) (w : World) :
    Calls Try.prog 40 #[.int .u8 c] w fun e w' => e = .returned (.bool (letB c)) ∧ w = w' := by
  go_enter Try.func40, Try.ntmps40
  go_wp2_with fail
  refine (Try.strings_IndexByte _ _ _).mono ?_
  rintro e w1 ⟨rfl, rfl⟩
  go_wp2
  go_ret
  exact ⟨ret_bool (letB_eq c h0 h1), rfl⟩

set_option maxHeartbeats 400000 in
theorem fits_any (i c : Int) (h0 : 0 ≤ c) (h1 : c ≤ 255) (w : World) :
    Calls Try.prog 34 #[.int .i64 i, .int .u8 c] w fun e w' => e = .returned (.bool (fitB i c)) ∧ w = w' := by
  by_cases h : i < 8
  · have H := Lib.hid (show fitB i c = digB c from if_pos h)
    go_enter Try.func34, Try.ntmps34
    go_wp2_with (go_at_call 33; refine (isDigit_any _ _).mono ?_; rintro e w' ⟨rfl, rfl⟩)
    go_ret
    exact ⟨ret_bool H.out.symm, rfl⟩
  · have H := Lib.hid (show fitB i c = letB c from if_neg h)
    go_enter Try.func34, Try.ntmps34
    go_wp2_with (go_at_call 40; refine (isLetter_any _ h0 h1 _).mono ?_; rintro e w' ⟨rfl, rfl⟩)
    go_ret
    exact ⟨ret_bool H.out.symm, rfl⟩

theorem ix_0 (b : Nat → Int) (w : World) : (Instr.index 43 (wv b) (.int .i64 0)).run Try.prog w = .ok (.int .u8 (b 0)) w := by kernel_rfl
theorem ix_1 (b : Nat → Int) (w : World) : (Instr.index 43 (wv b) (.int .i64 1)).run Try.prog w = .ok (.int .u8 (b 1)) w := by kernel_rfl
theorem ix_2 (b : Nat → Int) (w : World) : (Instr.index 43 (wv b) (.int .i64 2)).run Try.prog w = .ok (.int .u8 (b 2)) w := by kernel_rfl
theorem ix_3 (b : Nat → Int) (w : World) : (Instr.index 43 (wv b) (.int .i64 3)).run Try.prog w = .ok (.int .u8 (b 3)) w := by kernel_rfl
theorem ix_4 (b : Nat → Int) (w : World) : (Instr.index 43 (wv b) (.int .i64 4)).run Try.prog w = .ok (.int .u8 (b 4)) w := by kernel_rfl
theorem ix_5 (b : Nat → Int) (w : World) : (Instr.index 43 (wv b) (.int .i64 5)).run Try.prog w = .ok (.int .u8 (b 5)) w := by kernel_rfl
theorem ix_6 (b : Nat → Int) (w : World) : (Instr.index 43 (wv b) (.int .i64 6)).run Try.prog w = .ok (.int .u8 (b 6)) w := by kernel_rfl
theorem ix_7 (b : Nat → Int) (w : World) : (Instr.index 43 (wv b) (.int .i64 7)).run Try.prog w = .ok (.int .u8 (b 7)) w := by kernel_rfl
theorem ix_8 (b : Nat → Int) (w : World) : (Instr.index 43 (wv b) (.int .i64 8)).run Try.prog w = .ok (.int .u8 (b 8)) w := by kernel_rfl
theorem ix (b : Nat → Int) (k : Nat) (h : k < 9) (w : World) : (Instr.index 43 (wv b) (.int .i64 k)).run Try.prog w = .ok (.int .u8 (b k)) w := by
  have : k = 0 ∨ k = 1 ∨ k = 2 ∨ k = 3 ∨ k = 4 ∨ k = 5 ∨ k = 6 ∨ k = 7 ∨ k = 8 := by omega
  rcases this with h | h | h | h | h | h | h | h | h <;> subst h
  · exact ix_0 b w
  · exact ix_1 b w
  · exact ix_2 b w
  · exact ix_3 b w
  · exact ix_4 b w
  · exact ix_5 b w
  · exact ix_6 b w
  · exact ix_7 b w
  · exact ix_8 b w

/-- All nine bytes fit. -/
def formB (b : Nat → Int) : Bool := decide (∀ k : Nat, k < 9 → fitB k (b k) = true)

set_option maxHeartbeats 400000 in
theorem formed_any (b : Nat → Int) (hb : ∀ k, 0 ≤ b k ∧ b k ≤ 255) (w : World) :
    Calls Try.prog 31 #[wv b] w fun e w' => e = .returned (.bool (formB b)) ∧ Below w.heap.size w w' := by
  have Hb := Lib.hid hb
  clear hb
  go_enter Try.func31, Try.ntmps31
  go_wp2_with fail
  go_loop [6] (fun i => ∃ k : Nat, k ≤ 9 ∧ i = .int .i64 k ∧ ∀ j, j < k → fitB j (b j) = true) (fun i => 9 - (intOf i).toNat)
  case atStart => exact ⟨0, by omega, rfl, fun j hj => by omega⟩
  case round =>
    obtain ⟨k, hk, rfl, hok⟩ := hrel
    have Hok := Lib.hid hok
    clear hok
    by_cases hlt : k < 9
    · have hix := ix b k hlt
      have h0 := (Hb.out k).1
      have h1 := (Hb.out k).2
      by_cases hf : fitB k (b k) = true
      · have Hf := Lib.hid hf
        go_wp2_with (go_at_call 34; refine (fits_any _ _ h0 h1 _).mono ?_; rintro e w' ⟨rfl, rfl⟩)
        go_round
        case rel =>
          refine ⟨k + 1, by omega, by go_num, fun j hj => ?_⟩
          by_cases hjk : j = k
          · subst hjk; exact Hf.out
          · exact Hok.out j (by omega)
        case measure => simp [intOf]; omega
      · have hf' : fitB k (b k) = false := by simpa using hf
        have H := Lib.hid (show formB b = false from decide_eq_false (fun h => hf (h k hlt)))
        clear hf
        go_wp2_with (go_at_call 34; refine (fits_any _ _ h0 h1 _).mono ?_; rintro e w' ⟨rfl, rfl⟩)
        go_ret
        exact ⟨ret_bool H.out.symm, by (repeat (first | with_reducible exact Below.refl _ _ | with_reducible refine bl_drewN ?_ _ | with_reducible refine Below.drew ?_ | with_reducible refine bl_alloc ?_ _ | with_reducible refine Below.alloc ?_ (by first | omega | (simp; done) | (simp; omega)) _ | with_reducible refine Below.setCell ?_ (by first | omega | (simp; done) | (simp; omega)) _ | with_reducible assumption))⟩
    · obtain rfl : k = 9 := by omega
      have H := Lib.hid (show formB b = true from decide_eq_true Hok.out)
      go_wp2
      go_ret
      exact ⟨ret_bool H.out.symm, by (repeat (first | with_reducible exact Below.refl _ _ | with_reducible refine bl_drewN ?_ _ | with_reducible refine Below.drew ?_ | with_reducible refine bl_alloc ?_ _ | with_reducible refine Below.alloc ?_ (by first | omega | (simp; done) | (simp; omega)) _ | with_reducible refine Below.setCell ?_ (by first | omega | (simp; done) | (simp; omega)) _ | with_reducible assumption))⟩
end Go.Proofs.Ytpdekglmmgecmaa.Id
