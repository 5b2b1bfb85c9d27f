/- Walks: Ints; the sanity check of the statements of this layer. -/
import Derived.Test.YtokddjohdodkmaaTH
import Derived.WalkKit
import Derived.WalkSpells
import Derived.WalkLawsBesides
import Derived.Deep.QuietTactic
import Derived.BigQuiet
import Derived.Deep.Draws
import Derived.Deep.AppendLies
import Derived.Laws.OwnMore
import Derived.Laws.BytesArg
import Derived.Lib.Hide
import Derived.Deep.LoopGhost
namespace Go.Proofs.Ytokddjohdodkmaa.Tm
open Go.RowKit Go.Proofs.Ytokddjohdodkmaa.Mw
set_option linter.unusedVariables false
set_option linter.unusedSimpArgs false

set_option maxHeartbeats 400000 in
theorem ints_any (l m : List Int) (A : Option Addr) (c : Nat) (B : Option Addr) (d : Nat) (w : World) (hl : l.length ≤ 1000000) (hm : m.length ≤ 1000000) (h1 : RdI w .i64 A l) (h2 : RdI w .i64 B m) :
    Calls Try.prog 18 #[.slice A l.length c, .slice B m.length d] w fun e w' => e = .returned (.bool (decide (l = m))) ∧ Below w.heap.size w w' := by
  by_cases he : l.length = m.length
  · have hn : ((l.length : Int) != m.length) = false := by simp [he]
    have He := Lib.hid he
    have hle : m.length ≤ l.length := by omega
    have hge : l.length ≤ m.length := by omega
    clear he
    go_enter Try.func18, Try.ntmps18
    go_wp2_with fail
    go_loopw [5] (fun i wr => ∃ (k q : Nat), k ≤ l.length ∧ i = .int .i64 k ∧ (∀ j, j < k → gi l j = gi m j) ∧ wr = w.drewN q) (fun i _ => l.length - (intOf i).toNat)
    case atStart => exact ⟨0, 0, by omega, rfl, fun j hj => by omega, rfl⟩
    case round =>
      obtain ⟨k, q, hk, rfl, hok, rfl⟩ := hrel
      have Hok := Lib.hid hok
      clear hok
      by_cases hlt : k < l.length
      · obtain ⟨b, off, rfl, hbl, hc⟩ := h1 k hlt
        obtain ⟨b', off', rfl, hbl', hc'⟩ := h2 k (by omega)
        have hlt1 : (k : Int) < l.length := by omega
        have hlt2 : (k : Int) < m.length := by omega
        have hk0 : (0 : Int) ≤ k := by omega
        cases hv : gi l k != gi m k
        · go_wp2_with fail
          go_quiet (fail)
          go_wp2_with fail
          go_roundw
          case rel =>
            refine ⟨k + 1, _, by omega, by go_num, fun j hj => ?_, rfl⟩
            by_cases hjk : j = k
            · subst hjk; simpa using hv
            · exact Hok.out j (by omega)
          case measure => simp [intOf]; omega
        · go_wp2_with fail
          go_quiet (fail)
          go_wp2_with fail
          go_ret
          refine ⟨ret_bool (decide_eq_false (fun h => ?_)).symm, by (repeat (first | with_reducible exact Below.refl _ _ | with_reducible refine bl_drewN ?_ _ | with_reducible refine Below.drew ?_ | with_reducible refine bl_alloc ?_ _ | with_reducible refine Below.alloc ?_ (by first | omega | (simp; done) | (simp; omega)) _ | with_reducible refine Below.setCell ?_ (by first | omega | (simp; done) | (simp; omega)) _ | with_reducible assumption))⟩
          rw [h] at hv
          simp at hv
      · go_wp2_with fail
        go_ret
        exact ⟨ret_bool (decide_eq_true (ints_eq He.out fun j hj => Hok.out j (by omega))).symm, by (repeat (first | with_reducible exact Below.refl _ _ | with_reducible refine bl_drewN ?_ _ | with_reducible refine Below.drew ?_ | with_reducible refine bl_alloc ?_ _ | with_reducible refine Below.alloc ?_ (by first | omega | (simp; done) | (simp; omega)) _ | with_reducible refine Below.setCell ?_ (by first | omega | (simp; done) | (simp; omega)) _ | with_reducible assumption))⟩
  · have hn : ((l.length : Int) != m.length) = true := by simp; omega
    have He := Lib.hid he
    clear he
    go_enter Try.func18, Try.ntmps18
    go_wp2_with fail
    go_ret
    exact ⟨ret_bool (decide_eq_false (fun h => He.out (by rw [h]))).symm, by (repeat (first | with_reducible exact Below.refl _ _ | with_reducible refine bl_drewN ?_ _ | with_reducible refine Below.drew ?_ | with_reducible refine bl_alloc ?_ _ | with_reducible refine Below.alloc ?_ (by first | omega | (simp; done) | (simp; omega)) _ | with_reducible refine Below.setCell ?_ (by first | omega | (simp; done) | (simp; omega)) _ | with_reducible assumption))⟩

abbrev X0 : It := ⟨1, 1, ⟨#[113]⟩, [⟨1, 3, 0, 0, 0, 0⟩, ⟨2, 1, 0, 0, 4, 2⟩], []⟩
abbrev X1 : It := ⟨1, 2, ⟨#[113]⟩, [⟨1, 3, 0, 0, 0, 0⟩, ⟨2, 1, 0, 0, 4, 3⟩, ⟨1, 1, 0, 0, 0, 0⟩], []⟩
theorem chk_X0 : chk X0 = 0 := by decide +kernel
theorem tot_X1 : tot X1 = 5 := by decide +kernel
theorem mat_X : mat X0.ps X1.ps = [1, 2] := by decide +kernel

end Go.Proofs.Ytokddjohdodkmaa.Tm
