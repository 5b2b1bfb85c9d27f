/- Walks: Has, Contains, Enemy. -/
import Derived.Test.YtokddjohdodkmaaTG
import Derived.Test.YtokddjohdodkmaaRQ
import Derived.WalkKit
import Derived.WalkSpells
import Derived.WalkLawsBesides
import Derived.Deep.QuietTactic
import Derived.BigQuiet
import Derived.Deep.Draws
import Derived.Deep.AppendLies
import Derived.Laws.OwnMore
import Derived.Laws.BytesArg
import Derived.Lib.Hide
import Derived.Deep.LoopGhost
namespace Go.Proofs.Ytokddjohdodkmaa.Tm
open Go.RowKit Go.Proofs.Ytokddjohdodkmaa.Mw
open Go.Proofs.Ytokddjohdodkmaa.Mm (RC)
set_option linter.unusedVariables false
set_option linter.unusedSimpArgs false

/-- A number is in a list. -/
def hs (l : List Int) (v : Int) : Bool := decide (v ∈ l)
theorem hs_yes {l : List Int} {v : Int} {k : Nat} (hk : k < l.length) (h : gi l k = v) : hs l v = true := decide_eq_true (h ▸ gi_mem l k hk)
theorem hs_no {l : List Int} {v : Int} (h : ∀ j, j < l.length → gi l j ≠ v) : hs l v = false := decide_eq_false fun hm => by
  obtain ⟨j, hj⟩ := List.mem_iff_getElem?.1 hm
  have hlt : j < l.length := by
    rcases Nat.lt_or_ge j l.length with h1 | h1
    · exact h1
    · rw [List.getElem?_eq_none h1] at hj; cases hj
  rw [gi_lt l j hlt] at hj
  exact h j hlt (by simpa using hj)
/-- An index, or a negative number. -/
def SI (b : Bool) (w : World) (e : Ending) (w' : World) : Prop := ∃ n : Int, decide (0 ≤ n) = b ∧ e = .returned (.int .i64 n) ∧ w = w'
set_option maxHeartbeats 400000 in
theorem index_any (l : List Int) (A : Option Addr) (c : Nat) (v : Int) (w : World) (hl : l.length ≤ 1000000) (hr : RdI w .i64 A l) :
    Calls Try.prog 60 #[.slice A l.length c, .int .i64 v] w (SI (hs l v) w) := by
  have HR := Lib.hid hr
  clear hr
  go_enter Try.func60, Try.ntmps60
  go_wp2_with fail
  go_loop [8] (fun i => ∃ k : Nat, k ≤ l.length ∧ i = .int .i64 k ∧ Hid (∀ j, j < k → gi l j ≠ v)) (fun i => l.length - (intOf i).toNat)
  case atStart => exact ⟨0, by omega, rfl, fun j hj => absurd hj (by omega)⟩
  case round =>
    obtain ⟨k, hk, rfl, hn⟩ := hrel
    by_cases hlt : k < l.length
    · obtain ⟨b, off, rfl, hbl, hc⟩ := HR.out k hlt
      have q0 : (0 : Int) ≤ (k : Int) := by omega
      have q1 : (k : Int) < (l.length : Int) := by omega
      by_cases he : gi l k = v
      · have Hh := Lib.hid (hs_yes hlt he)
        have t1 : (v == gi l k) = true := beq_iff_eq.2 he.symm
        clear he
        go_wp2_with fail
        go_ret
        exact ⟨(k : Int), by rw [Hh.out]; exact decide_eq_true q0, rfl, rfl⟩
      · have Hh := Lib.hid he
        have t1 : (v == gi l k) = false := beq_eq_false_iff_ne.2 (fun e => he e.symm)
        clear he
        go_wp2_with fail
        go_round
        case rel => exact ⟨k + 1, by omega, by go_num, fun j hj => by
          by_cases h1 : j < k
          · exact hn.out j h1
          · obtain rfl : j = k := by omega
            exact Hh.out⟩
        case measure => simp [intOf]; omega
    · have Hh : Hid (hs l v = false) := hs_no fun j hj => hn.out j (by omega)
      go_wp2_with fail
      go_ret
      exact ⟨-1, by rw [Hh.out]; rfl, rfl, rfl⟩
theorem contains_any (l : List Int) (A : Option Addr) (c : Nat) (v : Int) (w : World) (hl : l.length ≤ 1000000) (hr : RdI w .i64 A l) :
    Calls Try.prog 56 #[.slice A l.length c, .int .i64 v] w fun e w' => e = .returned (.bool (hs l v)) ∧ w = w' := by
  have HI := Lib.hid (index_any l A c v w hl hr)
  clear hr
  go_enter Try.func56, Try.ntmps56
  go_wp2_with fail
  refine HI.out.mono ?_
  rintro e w1 ⟨n, hn, rfl, rfl⟩
  have Hn := Lib.hid hn
  clear hn
  go_wp2_with fail
  go_ret
  exact ⟨ret_bool Hn.out, rfl⟩
set_option maxHeartbeats 400000 in
theorem has_any (l : List Int) (A : Option Addr) (c : Nat) (v : Int) (w : World) (hl : l.length ≤ 1000000) (hr : RdI w .i64 A l) :
    Calls Try.prog 54 #[.slice A l.length c, .int .i64 v] w fun e w' => e = .returned (.bool (hs l v)) ∧ w = w' := by
  have HR := Lib.hid hr
  clear hr
  go_enter Try.func54, Try.ntmps54
  go_wp2_with fail
  go_loop [5] (fun i => ∃ k : Nat, k ≤ l.length ∧ i = .int .i64 k ∧ Hid (∀ j, j < k → gi l j ≠ v)) (fun i => l.length - (intOf i).toNat)
  case atStart => exact ⟨0, by omega, rfl, fun j hj => absurd hj (by omega)⟩
  case round =>
    obtain ⟨k, hk, rfl, hn⟩ := hrel
    by_cases hlt : k < l.length
    · obtain ⟨b, off, rfl, hbl, hc⟩ := HR.out k hlt
      have q0 : (0 : Int) ≤ (k : Int) := by omega
      have q1 : (k : Int) < (l.length : Int) := by omega
      by_cases he : gi l k = v
      · have Hh := Lib.hid (hs_yes hlt he)
        have t1 : (gi l k == v) = true := beq_iff_eq.2 he
        clear he
        go_wp2_with fail
        go_ret
        exact ⟨ret_bool Hh.out.symm, rfl⟩
      · have Hh := Lib.hid he
        have t1 : (gi l k == v) = false := beq_eq_false_iff_ne.2 he
        clear he
        go_wp2_with fail
        go_round
        case rel => exact ⟨k + 1, by omega, by go_num, fun j hj => by
          by_cases h1 : j < k
          · exact hn.out j h1
          · obtain rfl : j = k := by omega
            exact Hh.out⟩
        case measure => simp [intOf]; omega
    · have Hh : Hid (hs l v = false) := hs_no fun j hj => hn.out j (by omega)
      go_wp2_with fail
      go_ret
      exact ⟨ret_bool Hh.out.symm, rfl⟩
/-- Two items are enemies. -/
def enm (x y : It) : Bool := chk x == 0 && chk y == 0 && x.id != y.id && (hs x.en y.id || hs y.en x.id)
theorem enm_comm (x y : It) : enm x y = enm y x := by
  unfold enm
  rw [Bool.and_comm (chk x == 0), Bool.or_comm (hs x.en y.id), bne_comm]
theorem enm_self (x : It) : enm x x = false := by unfold enm; simp
theorem en5 {w : World} {g : Nat} {T : TypeId} {a b c d e : Value} (h : Bk w g T #[a, b, c, d, e]) : (w.cell? ⟨g, 0, none⟩ = some a ∧ w.cell? ⟨g, 1, none⟩ = some b ∧ w.cell? ⟨g, 2, none⟩ = some c ∧ w.cell? ⟨g, 3, none⟩ = some d ∧ w.cell? ⟨g, 4, none⟩ = some e) ∧ True := ⟨⟨h.cell 0, h.cell 1, h.cell 2, h.cell 3, h.cell 4⟩, trivial⟩
end Go.Proofs.Ytokddjohdodkmaa.Tm
