/- Walks: the statements SeatingVariants, SeatingNeighbours, SeatingSuits. -/
import Derived.Test.YtcidpgjeddogmaaWD
import Derived.Test.YtcidpgjeddogmaaTU
import Derived.WalkKit
import Derived.WalkSpells
import Derived.WalkLawsBesides
import Derived.Deep.QuietTactic
import Derived.BigQuiet
import Derived.Deep.Draws
import Derived.Deep.AppendLies
import Derived.Laws.OwnMore
import Derived.Laws.BytesArg
import Derived.Lib.Hide
import Derived.Deep.LoopGhost
namespace Go.Proofs.Ytcidpgjeddogmaa.Pl
open Go.RowKit
open Go.Proofs.Ytcidpgjeddogmaa.Mw
open Go.Proofs.Ytcidpgjeddogmaa.St
open Go.Proofs.Ytcidpgjeddogmaa.Tm (cut_any)
set_option linter.unusedVariables false
set_option linter.unusedSimpArgs false

set_option maxHeartbeats 1000000 in
theorem variants_any (r c v : Int) (hr : I64 r) (hc : I64 c) (hv : I64 v) (w : World) : Calls Try.prog 5 #[.int .i64 r, .int .i64 c, .int .i64 v] w fun e w' => e = .returned (.bool true) ∧ Below w.heap.size w w' := by
  have H1 := Lib.hid (cut_any r 9 (by omega) (by omega) hr)
  have H2 := Lib.hid (cut_any c 9 (by omega) (by omega) hc)
  have H3 := Lib.hid (cut_any v 6 (by omega) (by omega) hv)
  have P1 := Lib.hid (variant_any r c v)
  have P2 := Lib.hid (rvariant_any r c v)
  have P3 := Lib.hid (variant_any (r % 9) (c % 9) (v % 6))
  have P4 := Lib.hid (rvariant_any (r % 9) (c % 9) (v % 6))
  generalize var r c v = x at P1 P2
  generalize var (r % 9) (c % 9) (v % 6) = y at P3 P4
  generalize r % 9 = r' at H1 P3 P4
  generalize c % 9 = c' at H2 P3 P4
  generalize v % 6 = v' at H3 P3 P4
  clear hr hc hv
  go_enter Try.func5, Try.ntmps5
  go_wp2_with fail
  refine (H1.out _).mono ?_
  rintro e w1 ⟨rfl, rfl⟩
  go_wp2_with fail
  refine (H2.out _).mono ?_
  rintro e w1 ⟨rfl, rfl⟩
  go_wp2_with fail
  refine (H3.out _).mono ?_
  rintro e w1 ⟨rfl, rfl⟩
  go_wp2_with fail
  refine (P1.out _).mono ?_
  rintro e w1 ⟨rfl, rfl⟩
  go_wp2_with fail
  refine (P2.out _).mono ?_
  rintro e w1 ⟨rfl, rfl⟩
  go_wp2_with fail
  refine (P3.out _).mono ?_
  rintro e w1 ⟨rfl, rfl⟩
  go_wp2_with fail
  refine (P4.out _).mono ?_
  rintro e w1 ⟨rfl, rfl⟩
  go_wp2_with fail
  refine (awake_any _).mono ?_
  rintro e w1 ⟨rfl, hb⟩
  go_wp2_with fail
  go_ret
  exact ⟨rfl, hb⟩
theorem var_nb {r c v : Int} (h1 : 0 ≤ r ∧ r ≤ 7) (h2 : 0 ≤ c ∧ c ≤ 6) (h3 : v = 2 ∨ v = 3 ∨ v = 4) : var r c v ≠ var r (c + 1) v ∧ var c r v ≠ var (c + 1) r v ∧ (0 ≤ var r c v ∧ var r c v < v) ∧ (0 ≤ var r (c + 1) v ∧ var r (c + 1) v < v) ∧ (0 ≤ var c r v ∧ var c r v < v) ∧ (0 ≤ var (c + 1) r v ∧ var (c + 1) r v < v) := by
  have a : ins r 0 7 = true := (ins_iff _ _ _).2 h1
  have b : ins c 0 7 = true := (ins_iff _ _ _).2 (by omega)
  have d : ins (c + 1) 0 7 = true := (ins_iff _ _ _).2 (by omega)
  rcases h3 with rfl | rfl | rfl
  · rw [var_2 rfl a b rfl, var_2 rfl a d rfl, var_2 rfl b a rfl, var_2 rfl d a rfl]; omega
  · rw [var_3 rfl a b (by omega), var_3 rfl a d (by omega), var_3 rfl b a (by omega), var_3 rfl d a (by omega)]; omega
  · rw [var_3 rfl a b (by omega), var_3 rfl a d (by omega), var_3 rfl b a (by omega), var_3 rfl d a (by omega)]; omega
set_option maxHeartbeats 2000000 in
theorem neighbours_any (r c v : Int) (dn : Bool) (hr : I64 r) (hc : I64 c) (hv : I64 v) (w : World) : Calls Try.prog 6 #[.int .i64 r, .int .i64 c, .int .i64 v, .bool dn] w fun e w' => e = .returned (.bool true) ∧ Below w.heap.size w w' := by
  have H1 := Lib.hid (cut_any r 8 (by omega) (by omega) hr)
  have H2 := Lib.hid (cut_any c 7 (by omega) (by omega) hc)
  have H3 := Lib.hid (cut_any v 3 (by omega) (by omega) hv)
  have b1 := Int.emod_nonneg r (show (8 : Int) ≠ 0 by omega)
  have b2 := Int.emod_lt_of_pos r (show (0 : Int) < 8 by omega)
  have b3 := Int.emod_nonneg c (show (7 : Int) ≠ 0 by omega)
  have b4 := Int.emod_lt_of_pos c (show (0 : Int) < 7 by omega)
  have b5 := Int.emod_nonneg v (show (3 : Int) ≠ 0 by omega)
  have b6 := Int.emod_lt_of_pos v (show (0 : Int) < 3 by omega)
  generalize r % 8 = r' at H1 b1 b2
  generalize c % 7 = c' at H2 b3 b4
  generalize v % 3 = v' at H3 b5 b6
  obtain ⟨n1, n2, ⟨n3, n4⟩, ⟨n5, n6⟩, ⟨n7, n8⟩, ⟨n9, n10⟩⟩ := var_nb (r := r') (c := c') (v := 2 + v') (by omega) (by omega) (by omega)
  have P1 := Lib.hid (variant_any r' c' (2 + v'))
  have P2 := Lib.hid (variant_any r' (c' + 1) (2 + v'))
  have P3 := Lib.hid (variant_any c' r' (2 + v'))
  have P4 := Lib.hid (variant_any (c' + 1) r' (2 + v'))
  generalize var r' c' (2 + v') = x1 at *
  generalize var r' (c' + 1) (2 + v') = x2 at *
  generalize var c' r' (2 + v') = x3 at *
  generalize var (c' + 1) r' (2 + v') = x4 at *
  have m1 : (x1 != x2) = true := by rw [bne_iff_ne]; exact n1
  have m2 : (x3 != x4) = true := by rw [bne_iff_ne]; exact n2
  have e1 : IntKind.i64.wrap (2 + v') = 2 + v' := IntWalk.i64_in _ (by omega)
  have e2 : IntKind.i64.wrap (c' + 1) = c' + 1 := IntWalk.i64_in _ (by omega)
  clear hr hc hv n1 n2
  cases dn
  · go_enter Try.func6, Try.ntmps6
    go_wp2_with fail
    refine (H1.out _).mono ?_
    rintro e w1 ⟨rfl, rfl⟩
    go_wp2_with fail
    refine (H2.out _).mono ?_
    rintro e w1 ⟨rfl, rfl⟩
    go_wp2_with fail
    refine (H3.out _).mono ?_
    rintro e w1 ⟨rfl, rfl⟩
    go_wp2_with fail
    refine (P1.out _).mono ?_
    rintro e w1 ⟨rfl, rfl⟩
    go_wp2_with fail
    refine (P2.out _).mono ?_
    rintro e w1 ⟨rfl, rfl⟩
    go_wp2_with fail
    refine (awake_any _).mono ?_
    rintro e w1 ⟨rfl, hb⟩
    go_wp2_with fail
    go_ret
    exact ⟨rfl, hb⟩
  · go_enter Try.func6, Try.ntmps6
    go_wp2_with fail
    refine (H1.out _).mono ?_
    rintro e w1 ⟨rfl, rfl⟩
    go_wp2_with fail
    refine (H2.out _).mono ?_
    rintro e w1 ⟨rfl, rfl⟩
    go_wp2_with fail
    refine (H3.out _).mono ?_
    rintro e w1 ⟨rfl, rfl⟩
    go_wp2_with fail
    refine (P1.out _).mono ?_
    rintro e w1 ⟨rfl, rfl⟩
    go_wp2_with fail
    refine (P2.out _).mono ?_
    rintro e w1 ⟨rfl, rfl⟩
    go_wp2_with fail
    refine (P3.out _).mono ?_
    rintro e w1 ⟨rfl, rfl⟩
    go_wp2_with fail
    refine (P4.out _).mono ?_
    rintro e w1 ⟨rfl, rfl⟩
    go_wp2_with fail
    refine (awake_any _).mono ?_
    rintro e w1 ⟨rfl, hb⟩
    go_wp2_with fail
    go_ret
    exact ⟨rfl, hb⟩
end Go.Proofs.Ytcidpgjeddogmaa.Pl
