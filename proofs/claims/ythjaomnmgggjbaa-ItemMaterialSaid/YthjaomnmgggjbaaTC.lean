/- Walks: printable, validEnemies, Check, Total of items, of the program. -/
import Derived.Test.YthjaomnmgggjbaaTB
import Derived.WalkKit
import Derived.WalkSpells
import Derived.WalkLawsBesides
import Derived.Deep.QuietTactic
import Derived.BigQuiet
import Derived.Deep.Draws
import Derived.Deep.AppendLies
import Derived.Laws.OwnMore
import Derived.Laws.BytesArg
import Derived.Lib.Hide
import Derived.Deep.LoopGhost
namespace Go.Proofs.Ythjaomnmgggjbaa.Tm
open Go.RowKit Go.Proofs.Ythjaomnmgggjbaa.Mw
set_option linter.unusedVariables false

set_option maxHeartbeats 400000 in
theorem print_any (s : ByteArray) (hs : s.size ≤ 1000000) (w : World) :
    Calls Try.prog 42 #[.string s] w fun e w' => e = .returned (.bool (prt s)) ∧ w = w' := by
  go_enter Try.func42, Try.ntmps42
  go_wp2
  go_loop [3] (fun i => ∃ k : Nat, k ≤ s.size ∧ i = .int .i64 k ∧ ∀ j, j < k → bok (byt s j) = true) (fun i => s.size - (intOf i).toNat)
  case atStart => exact ⟨0, by omega, rfl, fun j hj => by omega⟩
  case round =>
    obtain ⟨k, hk, rfl, hok⟩ := hrel
    have Hok := Lib.hid hok
    clear hok
    by_cases hlt : k < s.size
    · have Hby := Lib.hid (byt_at s k hlt)
      by_cases h1 : 32 ≤ (s[k].toNat : Int)
      · by_cases h2 : (s[k].toNat : Int) ≤ 126
        · go_wp2
          go_round
          case rel =>
            refine ⟨k + 1, by omega, by go_num, fun j hj => ?_⟩
            by_cases hjk : j = k
            · subst hjk; rw [Hby.out]; exact decide_eq_true ⟨h1, h2⟩
            · exact Hok.out j (by omega)
          case measure => simp [intOf]; omega
        · go_wp2
          go_ret
          exact ⟨ret_bool (allI_false k hlt (by rw [Hby.out]; exact decide_eq_false (by omega))).symm, rfl⟩
      · go_wp2
        go_ret
        exact ⟨ret_bool (allI_false k hlt (by rw [Hby.out]; exact decide_eq_false (by omega))).symm, rfl⟩
    · go_wp2
      go_ret
      exact ⟨ret_bool (allI_true fun j hj => Hok.out j (by omega)).symm, rfl⟩

theorem en_yes {id : Int} {l : List Int} {k : Nat} (h1 : isn (gi l k) = true) (h2 : (gi l k == id) = false) (h3 : k = 0 ∨ gi l (k - 1) < gi l k) : enAt id l k = true := by
  have := decide_eq_true_iff.1 h1
  exact decide_eq_true ⟨this.1, this.2, by simpa using h2, h3⟩
theorem en_no1 {id : Int} {l : List Int} {k : Nat} (h1 : isn (gi l k) = false) : enAt id l k = false := by
  have := decide_eq_false_iff_not.1 h1
  exact decide_eq_false (fun h => this ⟨h.1, h.2.1⟩)
theorem en_no2 {id : Int} {l : List Int} {k : Nat} (h2 : (gi l k == id) = true) : enAt id l k = false :=
  decide_eq_false (fun h => h.2.2.1 (by simpa using h2))
theorem en_no3 {id : Int} {l : List Int} {k : Nat} (h3 : ¬ k = 0) (h4 : ¬ gi l (k - 1) < gi l k) : enAt id l k = false :=
  decide_eq_false (fun h => by have := h.2.2.2; omega)
theorem sub_at (k : Nat) (h : ¬ k = 0) : ((k : Int) - 1).toNat = k - 1 := by omega

set_option maxHeartbeats 400000 in
theorem enem_any (id : Int) (l : List Int) (A : Option Addr) (c : Nat) (w : World) (hl : l.length ≤ 1000000) (hr : RdI w .i64 A l) :
    Calls Try.prog 43 #[.int .i64 id, .slice A l.length c] w fun e w' => e = .returned (.bool (enOk id l)) ∧ w = w' := by
  go_enter Try.func43, Try.ntmps43
  go_wp2_with fail
  go_loop [9] (fun i => ∃ k : Nat, k ≤ l.length ∧ i = .int .i64 k ∧ ∀ j, j < k → enAt id l j = true) (fun i => l.length - (intOf i).toNat)
  case atStart => exact ⟨0, by omega, rfl, fun j hj => by omega⟩
  case round =>
    obtain ⟨k, hk, rfl, hok⟩ := hrel
    have Hok := Lib.hid hok
    clear hok
    by_cases hlt : k < l.length
    · obtain ⟨b, off, rfl, hbl, hc⟩ := hr k hlt
      cases h1 : isn (gi l k)
      · go_wp2_with (go_at_call 41; refine (isnum _ _).mono ?_; rintro e w' ⟨rfl, rfl⟩)
        go_ret
        exact ⟨ret_bool (allI_false k hlt (en_no1 h1)).symm, rfl⟩
      · cases h2 : gi l k == id
        · by_cases h3 : k = 0
          · have h3' : (k : Int) ≤ 0 := by omega
            have H3 := Lib.hid h3
            clear h3
            go_wp2_with (go_at_call 41; refine (isnum _ _).mono ?_; rintro e w' ⟨rfl, rfl⟩)
            go_round
            case rel =>
              refine ⟨k + 1, by omega, by go_num, fun j hj => ?_⟩
              obtain rfl : j = k := by omega
              exact en_yes h1 h2 (.inl H3.out)
            case measure => simp [intOf]; omega
          · obtain ⟨b', off', e', _, hc'⟩ := hr (k - 1) (by omega)
            cases e'
            have h3' : (0 : Int) < k := by omega
            have H3 := Lib.hid h3
            clear h3
            by_cases h4 : gi l (k - 1) < gi l k
            · go_wp2_with (go_at_call 41; refine (isnum _ _).mono ?_; rintro e w' ⟨rfl, rfl⟩)
              go_round
              case rel =>
                refine ⟨k + 1, by omega, by go_num, fun j hj => ?_⟩
                by_cases hjk : j = k
                · subst hjk; exact en_yes h1 h2 (.inr h4)
                · exact Hok.out j (by omega)
              case measure => simp [intOf]; omega
            · go_wp2_with (go_at_call 41; refine (isnum _ _).mono ?_; rintro e w' ⟨rfl, rfl⟩)
              go_ret
              exact ⟨ret_bool (allI_false k hlt (en_no3 H3.out (by omega))).symm, rfl⟩
        · go_wp2_with (go_at_call 41; refine (isnum _ _).mono ?_; rintro e w' ⟨rfl, rfl⟩)
          go_ret
          exact ⟨ret_bool (allI_false k hlt (en_no2 h2)).symm, rfl⟩
    · go_wp2
      go_ret
      exact ⟨ret_bool (allI_true fun j hj => Hok.out j (by omega)).symm, rfl⟩
end Go.Proofs.Ythjaomnmgggjbaa.Tm
