/- Walks: Cut; the statement ItemParts. -/
import Derived.Test.YtcidpgjeddogmaaRows
import Derived.Test.YtcidpgjeddogmaaMW
import Derived.Test.YtcidpgjeddogmaaMem
import Derived.WalkKit
import Derived.WalkSpells
import Derived.WalkLawsBesides
import Derived.Deep.QuietTactic
import Derived.BigQuiet
import Derived.Deep.Draws
import Derived.Deep.AppendLies
import Derived.Laws.OwnMore
import Derived.Laws.BytesArg
import Derived.Lib.Hide
import Derived.Deep.LoopGhost
namespace Go.Proofs.Ytcidpgjeddogmaa.Tm
open Go.RowKit Go.Proofs.Ytcidpgjeddogmaa.Mw
set_option linter.unusedVariables false
set_option linter.unusedSimpArgs false

theorem tmod_neg (x n : Int) (hx : x < 0) (h0 : 1 ≤ n) : -n < x.tmod n ∧ x.tmod n ≤ 0 ∧ (x.tmod n < 0 → x.tmod n + n = x % n) ∧ (0 ≤ x.tmod n → x.tmod n = x % n) := by
  have hb := Int.emod_nonneg x (show n ≠ 0 by omega)
  have hc := Int.emod_lt_of_pos x (show 0 < n by omega)
  rw [Int.tmod_eq_emod]
  by_cases h : n ∣ x
  · rw [if_pos (.inr h)]
    have := Int.emod_eq_zero_of_dvd h
    omega
  · rw [if_neg (by omega)]
    have : x % n ≠ 0 := fun e => h (Int.dvd_of_emod_eq_zero e)
    omega

set_option maxHeartbeats 400000 in
theorem cut_any (x n : Int) (h0 : 1 ≤ n) (h1 : n ≤ 1000000000000) (hx : I64 x) (w : World) :
    Calls Try.prog 17 #[.int .i64 x, .int .i64 n] w fun e w' => e = .returned (.int .i64 (x % n)) ∧ w = w' := by
  obtain ⟨hx0, hx1⟩ := hx
  have hb := Int.emod_nonneg x (show n ≠ 0 by omega)
  have hc := Int.emod_lt_of_pos x (show 0 < n by omega)
  by_cases hx : 0 ≤ x
  · have e : x.tmod n = x % n := Int.tmod_eq_emod_of_nonneg hx
    go_enter Try.func17, Try.ntmps17
    go_wp2
    go_ret
    exact ⟨rfl, rfl⟩
  · obtain ⟨a1, a2, a3, a4⟩ := tmod_neg x n (by omega) h0
    have A3 := Lib.hid a3
    have A4 := Lib.hid a4
    clear a3 a4
    by_cases hn : x.tmod n < 0
    · go_enter Try.func17, Try.ntmps17
      go_wp2
      go_ret
      exact ⟨by rw [← A3.out hn]; rfl, rfl⟩
    · go_enter Try.func17, Try.ntmps17
      go_wp2
      go_ret
      exact ⟨by rw [← A4.out (by omega)]; rfl, rfl⟩

end Go.Proofs.Ytcidpgjeddogmaa.Tm
