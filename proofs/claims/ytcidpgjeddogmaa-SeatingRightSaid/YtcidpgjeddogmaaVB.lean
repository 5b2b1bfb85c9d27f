/- Walks: small functions of the seating layer, of the program and of the reference. -/
import Derived.Test.YtcidpgjeddogmaaVA
import Derived.WalkKit
import Derived.WalkSpells
import Derived.WalkLawsBesides
import Derived.Deep.QuietTactic
import Derived.BigQuiet
import Derived.Deep.Draws
import Derived.Deep.AppendLies
import Derived.Laws.OwnMore
import Derived.Laws.BytesArg
import Derived.Lib.Hide
import Derived.Deep.LoopGhost
namespace Go.Proofs.Ytcidpgjeddogmaa.St
open Go.RowKit
open Go.Proofs.Ytcidpgjeddogmaa.Mw (I64 ret_int ret_bool Bk bl_trans bl_alloc bl_drewN RdI ge)
set_option linter.unusedVariables false
set_option linter.unusedSimpArgs false

theorem inside_any (n a b : Int) (w : World) : Calls Try.prog 45 #[.int .i64 n, .int .i64 a, .int .i64 b] w fun e w' => e = .returned (.bool (ins n a b)) ∧ w = w' := by
  by_cases h1 : a ≤ n
  · by_cases h2 : n ≤ b
    · have H : Hid (ins n a b = true) := decide_eq_true ⟨h1, h2⟩
      go_enter Try.func45, Try.ntmps45
      go_wp2_with fail
      go_ret
      exact ⟨by rw [H.out]; first | rfl | (simp; omega), rfl⟩
    · have H : Hid (ins n a b = false) := decide_eq_false fun x => h2 x.2
      have h2' : b < n := by omega
      go_enter Try.func45, Try.ntmps45
      go_wp2_with fail
      go_ret
      exact ⟨by rw [H.out]; first | rfl | (simp; omega), rfl⟩
  · have H : Hid (ins n a b = false) := decide_eq_false fun x => h1 x.1
    have h1' : n < a := by omega
    go_enter Try.func45, Try.ntmps45
    go_wp2_with fail
    go_ret
    exact ⟨by rw [H.out]; first | rfl | (simp; omega), rfl⟩
theorem vvar_any (n : Int) (w : World) : Calls Try.prog 41 #[.int .i64 n] w fun e w' => e = .returned (.bool (ins n 2 4)) ∧ w = w' := by
  go_enter Try.func41, Try.ntmps41
  go_wp2_with fail
  all_goals
    go_ret
    exact ⟨ret_bool (by rw [Bool.eq_iff_iff]; simp only [ins, decide_eq_true_eq, Bool.false_eq_true, true_iff, iff_true, false_iff, iff_false]; omega), rfl⟩
theorem side_any (n : Int) (w : World) : Calls Try.prog 42 #[.int .i64 n] w fun e w' => e = .returned (.bool (ins n 1 8)) ∧ w = w' := by
  go_enter Try.func42, Try.ntmps42
  go_wp2_with fail
  all_goals
    go_ret
    exact ⟨ret_bool (by rw [Bool.eq_iff_iff]; simp only [ins, decide_eq_true_eq, Bool.false_eq_true, true_iff, iff_true, false_iff, iff_false]; omega), rfl⟩
theorem vneeds_any (n : Int) (w : World) : Calls Try.prog 43 #[.int .i64 n] w fun e w' => e = .returned (.bool (ins n 0 63)) ∧ w = w' := by
  go_enter Try.func43, Try.ntmps43
  go_wp2_with fail
  all_goals
    go_ret
    exact ⟨ret_bool (by rw [Bool.eq_iff_iff]; simp only [ins, decide_eq_true_eq, Bool.false_eq_true, true_iff, iff_true, false_iff, iff_false]; omega), rfl⟩
theorem seats_any (r : Rm) (h1 : 0 ≤ r.r ∧ r.r ≤ 100) (h2 : 0 ≤ r.c ∧ r.c ≤ 100) (w : World) : Calls Try.prog 44 #[rmv r] w fun e w' => e = .returned (.int .i64 (r.r * r.c)) ∧ Below w.heap.size w w' := by
  have h3 : 0 ≤ r.r * r.c := Int.mul_nonneg h1.1 h2.1
  have h4 : r.r * r.c ≤ 10000 := Int.le_trans (Int.mul_le_mul h1.2 h2.2 h2.1 (by omega)) (by omega)
  have hw : IntKind.i64.wrap (r.r * r.c) = r.r * r.c := IntWalk.i64_in _ (by omega)
  go_enter Try.func44, Try.ntmps44
  go_wp2_with fail
  go_ret
  exact ⟨by first | rfl | (simp [hw]), by (repeat (first | with_reducible exact Below.refl _ _ | with_reducible refine bl_drewN ?_ _ | with_reducible refine Below.drew ?_ | with_reducible refine bl_alloc ?_ _ | with_reducible refine Below.alloc ?_ (by first | omega | (simp; done) | (simp; omega)) _ | with_reducible refine Below.setCell ?_ (by first | omega | (simp; done) | (simp; omega)) _ | with_reducible assumption))⟩
theorem suits_any (r : Rm) (n : Nd) (w : World) : Calls Try.prog 23 #[rmv r, ndv n] w fun e w' => e = .returned (.bool (sut r n)) ∧ Below w.heap.size w w' := by
  go_enter Try.func23, Try.ntmps23
  go_wp2_with fail
  go_ret
  exact ⟨rfl, by (repeat (first | with_reducible exact Below.refl _ _ | with_reducible refine bl_drewN ?_ _ | with_reducible refine Below.drew ?_ | with_reducible refine bl_alloc ?_ _ | with_reducible refine Below.alloc ?_ (by first | omega | (simp; done) | (simp; omega)) _ | with_reducible refine Below.setCell ?_ (by first | omega | (simp; done) | (simp; omega)) _ | with_reducible assumption))⟩
theorem rsuits_any (r : Rm) (n : Nd) (w : World) : Calls Try.prog 24 #[rmv r, ndv n] w fun e w' => e = .returned (.bool (sut r n)) ∧ Below w.heap.size w w' := by
  go_enter Try.func24, Try.ntmps24
  go_wp2_with fail
  go_ret
  exact ⟨rfl, by (repeat (first | with_reducible exact Below.refl _ _ | with_reducible refine bl_drewN ?_ _ | with_reducible refine Below.drew ?_ | with_reducible refine bl_alloc ?_ _ | with_reducible refine Below.alloc ?_ (by first | omega | (simp; done) | (simp; omega)) _ | with_reducible refine Below.setCell ?_ (by first | omega | (simp; done) | (simp; omega)) _ | with_reducible assumption))⟩
theorem ins_iff (n a b : Int) : ins n a b = true ↔ a ≤ n ∧ n ≤ b := by unfold ins; rw [decide_eq_true_eq]
theorem ins_no (n a b : Int) : ins n a b = false ↔ ¬ (a ≤ n ∧ n ≤ b) := by unfold ins; rw [decide_eq_false_iff_not]
theorem var_0 {r c v : Int} (h : ins v 2 4 = false ∨ ins r 0 7 = false ∨ ins c 0 7 = false) : var r c v = 0 := by
  unfold var
  rw [if_neg]
  rintro ⟨a, b, c⟩
  rcases h with h | h | h <;> simp_all
theorem var_2 {r c v : Int} (h : ins v 2 4 = true) (h1 : ins r 0 7 = true) (h2 : ins c 0 7 = true) (h3 : v = 2) : var r c v = (r + c) % v := by unfold var; rw [if_pos ⟨h, h1, h2⟩, if_pos h3]
theorem var_3 {r c v : Int} (h : ins v 2 4 = true) (h1 : ins r 0 7 = true) (h2 : ins c 0 7 = true) (h3 : ¬ v = 2) : var r c v = (r + 2 * c) % v := by unfold var; rw [if_pos ⟨h, h1, h2⟩, if_neg h3]
set_option maxHeartbeats 1000000 in
theorem variant_any (r c v : Int) (w : World) : Calls Try.prog 21 #[.int .i64 r, .int .i64 c, .int .i64 v] w fun e w' => e = .returned (.int .i64 (var r c v)) ∧ w = w' := by
  have HV := Lib.hid (vvar_any v)
  cases h1 : ins v 2 4
  · have H := Lib.hid (var_0 (r := r) (c := c) (.inl h1))
    rw [h1] at HV
    clear h1
    go_enter Try.func21, Try.ntmps21
    go_wp2_with fail
    refine (HV.out _).mono ?_
    rintro e w1 ⟨rfl, rfl⟩
    go_wp2_with fail
    go_ret
    exact ⟨by rw [H.out]; rfl, rfl⟩
  rw [h1] at HV
  by_cases h2 : 0 ≤ r ∧ r ≤ 7
  · by_cases h3 : 0 ≤ c ∧ c ≤ 7
    · have hv := (ins_iff _ _ _).1 h1
      by_cases h4 : v = 2
      · have H := Lib.hid (var_2 h1 ((ins_iff _ _ _).2 h2) ((ins_iff _ _ _).2 h3) h4)
        have t4 : (v == 2) = true := by simp [h4]
        have n0 : 0 ≤ r + c := by omega
        have n1 : v ≠ 0 := by omega
        clear h1 h4
        go_enter Try.func21, Try.ntmps21
        go_wp2_with fail
        refine (HV.out _).mono ?_
        rintro e w1 ⟨rfl, rfl⟩
        go_wp2_with fail
        go_ret
        exact ⟨by rw [H.out]; rfl, rfl⟩
      · have H := Lib.hid (var_3 h1 ((ins_iff _ _ _).2 h2) ((ins_iff _ _ _).2 h3) h4)
        have t4 : (v == 2) = false := by simp [h4]
        have n0 : 0 ≤ r + 2 * c := by omega
        have n1 : v ≠ 0 := by omega
        clear h1 h4
        go_enter Try.func21, Try.ntmps21
        go_wp2_with fail
        refine (HV.out _).mono ?_
        rintro e w1 ⟨rfl, rfl⟩
        go_wp2_with fail
        go_ret
        exact ⟨by rw [H.out]; rfl, rfl⟩
    · have H := Lib.hid (var_0 (r := r) (v := v) (.inr (.inr ((ins_no _ _ _).2 h3))))
      clear h1
      rcases Int.lt_or_le c 0 with h4 | h4
      all_goals
        have h5 : c < 0 ∨ 8 ≤ c := by omega
        clear h3
        go_enter Try.func21, Try.ntmps21
        go_wp2_with fail
        refine (HV.out _).mono ?_
        rintro e w1 ⟨rfl, rfl⟩
        go_wp2_with fail
        all_goals first | (exfalso; omega) | (go_ret; exact ⟨by rw [H.out]; rfl, rfl⟩)
  · have H := Lib.hid (var_0 (c := c) (v := v) (.inr (.inl ((ins_no _ _ _).2 h2))))
    clear h1
    rcases Int.lt_or_le r 0 with h4 | h4
    all_goals
      have h5 : r < 0 ∨ 8 ≤ r := by omega
      clear h2
      go_enter Try.func21, Try.ntmps21
      go_wp2_with fail
      refine (HV.out _).mono ?_
      rintro e w1 ⟨rfl, rfl⟩
      go_wp2_with fail
      all_goals first | (exfalso; omega) | (go_ret; exact ⟨by rw [H.out]; rfl, rfl⟩)
set_option maxHeartbeats 1000000 in
theorem rvariant_any (r c v : Int) (w : World) : Calls Try.prog 22 #[.int .i64 r, .int .i64 c, .int .i64 v] w fun e w' => e = .returned (.int .i64 (var r c v)) ∧ w = w' := by
  have HV := Lib.hid (inside_any v 2 4)
  have HR := Lib.hid (inside_any r 0 7)
  have HC := Lib.hid (inside_any c 0 7)
  cases h1 : ins v 2 4
  · have H := Lib.hid (var_0 (r := r) (c := c) (.inl h1))
    rw [h1] at HV
    clear h1
    go_enter Try.func22, Try.ntmps22
    go_wp2_with fail
    refine (HV.out _).mono ?_
    rintro e w1 ⟨rfl, rfl⟩
    go_wp2_with fail
    go_ret
    exact ⟨by rw [H.out]; rfl, rfl⟩
  rw [h1] at HV
  have hv := (ins_iff _ _ _).1 h1
  cases h2 : ins r 0 7
  · have H := Lib.hid (var_0 (c := c) (v := v) (.inr (.inl h2)))
    rw [h2] at HR
    clear h1 h2
    go_enter Try.func22, Try.ntmps22
    go_wp2_with fail
    refine (HV.out _).mono ?_
    rintro e w1 ⟨rfl, rfl⟩
    go_wp2_with fail
    refine (HR.out _).mono ?_
    rintro e w1 ⟨rfl, rfl⟩
    go_wp2_with fail
    go_ret
    exact ⟨by rw [H.out]; rfl, rfl⟩
  rw [h2] at HR
  have hr := (ins_iff _ _ _).1 h2
  cases h3 : ins c 0 7
  · have H := Lib.hid (var_0 (r := r) (v := v) (.inr (.inr h3)))
    rw [h3] at HC
    clear h1 h2 h3
    go_enter Try.func22, Try.ntmps22
    go_wp2_with fail
    refine (HV.out _).mono ?_
    rintro e w1 ⟨rfl, rfl⟩
    go_wp2_with fail
    refine (HR.out _).mono ?_
    rintro e w1 ⟨rfl, rfl⟩
    go_wp2_with fail
    refine (HC.out _).mono ?_
    rintro e w1 ⟨rfl, rfl⟩
    go_wp2_with fail
    go_ret
    exact ⟨by rw [H.out]; rfl, rfl⟩
  rw [h3] at HC
  have hc := (ins_iff _ _ _).1 h3
  by_cases h4 : v = 2
  · have H : Hid (var r c v = (r + c) % 2) := by unfold Hid; rw [var_2 h1 h2 h3 h4, h4]
    have t4 : (v == 2) = true := by simp [h4]
    have n0 : 0 ≤ r + c := by omega
    clear h1 h2 h3 h4
    go_enter Try.func22, Try.ntmps22
    go_wp2_with fail
    refine (HV.out _).mono ?_
    rintro e w1 ⟨rfl, rfl⟩
    go_wp2_with fail
    refine (HR.out _).mono ?_
    rintro e w1 ⟨rfl, rfl⟩
    go_wp2_with fail
    refine (HC.out _).mono ?_
    rintro e w1 ⟨rfl, rfl⟩
    go_wp2_with fail
    go_ret
    exact ⟨by rw [H.out]; rfl, rfl⟩
  · have H := Lib.hid (var_3 h1 h2 h3 h4)
    have t4 : (v == 2) = false := by simp [h4]
    have n0 : 0 ≤ r + 2 * c := by omega
    have n1 : v ≠ 0 := by omega
    clear h1 h2 h3 h4
    go_enter Try.func22, Try.ntmps22
    go_wp2_with fail
    refine (HV.out _).mono ?_
    rintro e w1 ⟨rfl, rfl⟩
    go_wp2_with fail
    refine (HR.out _).mono ?_
    rintro e w1 ⟨rfl, rfl⟩
    go_wp2_with fail
    refine (HC.out _).mono ?_
    rintro e w1 ⟨rfl, rfl⟩
    go_wp2_with fail
    go_ret
    exact ⟨by rw [H.out]; rfl, rfl⟩
end Go.Proofs.Ytcidpgjeddogmaa.St
