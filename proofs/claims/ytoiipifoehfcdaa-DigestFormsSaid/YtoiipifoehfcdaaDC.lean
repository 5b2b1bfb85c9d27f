/- Walks: digit and Parse of the program. -/
import Derived.Test.YtoiipifoehfcdaaDB
import Derived.Lib.Hide
namespace Go.Proofs.Ytoiipifoehfcdaa.Dg
open Go.RowKit

def hexv (c : Int) : Int := if 48 ≤ c ∧ c ≤ 57 then c - 48 else if 97 ≤ c ∧ c ≤ 102 then c - 87 else 0
def hexok (c : Int) : Bool := decide ((48 ≤ c ∧ c ≤ 57) ∨ (97 ≤ c ∧ c ≤ 102))

set_option maxHeartbeats 400000 in
theorem digit_any (c : Int) (h0 : 0 ≤ c) (h1 : c ≤ 255) (w : World) :
    Calls Try.prog 23 #[.int .u8 c] w fun e w' => e = .returned (.tuple #[.int .u32 (hexv c), .bool (hexok c)]) ∧ w = w' := by
  by_cases a : 48 ≤ c
  · by_cases b : c ≤ 57
    · have e1 : hexv c = c - 48 := if_pos ⟨a, b⟩
      have e2 : hexok c = true := decide_eq_true (.inl ⟨a, b⟩)
      rw [e1, e2]; clear e1 e2
      go_enter Try.func23, Try.ntmps23
      go_wp2
      go_ret2
      exact ⟨rfl, rfl⟩
    · by_cases d : 97 ≤ c
      · by_cases f : c ≤ 102
        · have e1 : hexv c = c - 97 + 10 := by unfold hexv; rw [if_neg (by omega), if_pos ⟨d, f⟩]; omega
          have e2 : hexok c = true := decide_eq_true (.inr ⟨d, f⟩)
          rw [e1, e2]; clear e1 e2
          go_enter Try.func23, Try.ntmps23
          go_wp2
          go_ret2
          exact ⟨rfl, rfl⟩
        · have e1 : hexv c = 0 := by unfold hexv; rw [if_neg (by omega), if_neg (by omega)]
          have e2 : hexok c = false := decide_eq_false (by omega)
          rw [e1, e2]; clear e1 e2
          go_enter Try.func23, Try.ntmps23
          go_wp2
          go_ret2
          exact ⟨rfl, rfl⟩
      · have e1 : hexv c = 0 := by unfold hexv; rw [if_neg (by omega), if_neg (by omega)]
        have e2 : hexok c = false := decide_eq_false (by omega)
        rw [e1, e2]; clear e1 e2
        go_enter Try.func23, Try.ntmps23
        go_wp2
        go_ret2
        exact ⟨rfl, rfl⟩
  · have e1 : hexv c = 0 := by unfold hexv; rw [if_neg (by omega), if_neg (by omega)]
    have e2 : hexok c = false := decide_eq_false (by omega)
    rw [e1, e2]; clear e1 e2
    have a' : decide (97 ≤ c) = false := decide_eq_false (by omega)
    go_enter Try.func23, Try.ntmps23
    go_wp2
    go_ret2
    exact ⟨rfl, rfl⟩

/-- Byte number k of a string, as an integer. -/
def byt (s : ByteArray) (k : Nat) : Int := ((s.data.toList.getD k 0).toNat : Int)
/-- A word with one more hexadecimal digit at its end. -/
def shl4 (x v : Int) : Int := bits .or .u32 (x * 16 % 4294967296) v
/-- The words after k bytes of a text. -/
def pst (s : ByteArray) : Nat → St
  | 0 => (0, 0, 0, 0)
  | k + 1 =>
    let p := pst s k
    let v := hexv (byt s k)
    if k / 8 = 0 then (shl4 p.1 v, p.2) else if k / 8 = 1 then (p.1, shl4 p.2.1 v, p.2.2) else if k / 8 = 2 then (p.1, p.2.1, shl4 p.2.2.1 v, p.2.2.2) else (p.1, p.2.1, p.2.2.1, shl4 p.2.2.2 v)

/-- A text of 32 hexadecimal digits. -/
def pok (s : ByteArray) : Prop := s.size = 32 ∧ ∀ j, j < 32 → hexok (byt s j) = true
/-- What Parse returns. -/
def pout (s : ByteArray) (v : Value) : Prop := (pok s ∧ v = .tuple #[dv (pst s 32), .int .i64 0]) ∨ (¬ pok s ∧ v = .tuple #[dv (0, 0, 0, 0), .int .i64 7])

theorem byt_at (s : ByteArray) (k : Nat) (h : k < s.size) : byt s k = ↑s[k].toNat := by
  have hk' : k < s.data.toList.length := by simpa using h
  unfold byt; rw [List.getD_eq_getElem?_getD, List.getElem?_eq_getElem hk']; rfl

set_option maxHeartbeats 1000000 in
theorem parse_any (s : ByteArray) (_hs : s.size ≤ maxLen) (w : World) :
    Calls Try.prog 8 #[.string s] w fun e w' => (∃ v, e = .returned v ∧ pout s v) ∧ Below w.heap.size w w' := by
  unfold maxLen at _hs
  by_cases hl : s.size = 32
  · go_enter Try.func8, Try.ntmps8
    go_wp2_with fail
    go_loopw [5] (fun i wr => ∃ k : Nat, k ≤ 32 ∧ i = .int .i64 k ∧ (∀ j, j < k → hexok (byt s j) = true) ∧ wr = (w.alloc (.cells #[.int .u32 0, .int .u32 0, .int .u32 0, .int .u32 0] 24)).alloc (.cells #[.int .u32 (pst s k).1, .int .u32 (pst s k).2.1, .int .u32 (pst s k).2.2.1, .int .u32 (pst s k).2.2.2] 24)) (fun i _ => 32 - (intOf i).toNat)
    case atStart => exact ⟨0, by omega, rfl, fun j hj => by omega, rfl⟩
    case round =>
      obtain ⟨k, hk, rfl, hok, rfl⟩ := hrel
      have Hok := Lib.hid hok
      clear hok
      by_cases hlt : k < 32
      · have Hby := Lib.hid (byt_at s k (by omega))
        have hc0 : (0 : Int) ≤ ↑s[k].toNat := by omega
        have hc1 : (↑s[k].toNat : Int) ≤ 255 := by have := s[k].toNat_lt; omega
        by_cases hx : hexok ↑s[k].toNat = true
        · have h8 : (k : Int) / 8 = 0 ∨ (k : Int) / 8 = 1 ∨ (k : Int) / 8 = 2 ∨ (k : Int) / 8 = 3 := by omega
          have Hx := Lib.hid hx
          rcases h8 with h8 | h8 | h8 | h8
          all_goals
            go_wp2_with (go_at_call 23; refine (digit_any _ hc0 hc1 _).mono ?_; rintro e w' ⟨rfl, rfl⟩)
            go_roundw
            case rel =>
              refine ⟨k + 1, by omega, by go_num, fun j hj => ?_, ?_⟩
              · by_cases hjk : j = k
                · subst hjk; rw [Hby.out]; exact Hx.out
                · exact Hok.out j (by omega)
              · first
                | simp [pst, Hby.out, shl4, show k / 8 = 0 by omega]
                | simp [pst, Hby.out, shl4, show k / 8 = 1 by omega]
                | simp [pst, Hby.out, shl4, show k / 8 = 2 by omega]
                | simp [pst, Hby.out, shl4, show k / 8 = 3 by omega]
            case measure => simp [intOf]; omega
        · have hx' : hexok ↑s[k].toNat = false := by simpa using hx
          have hno : ¬ pok s := fun h => hx (by rw [← Hby.out]; exact h.2 k hlt)
          have Hno := Lib.hid hno
          clear hno hx
          go_wp2_with (go_at_call 23; refine (digit_any _ hc0 hc1 _).mono ?_; rintro e w' ⟨rfl, rfl⟩)
          refine bodyPost_ret (v := .tuple #[dv (0, 0, 0, 0), .int .i64 7]) (by simp [results, Try.results8, go_sem]) rfl ⟨⟨_, rfl, .inr ⟨Hno.out, rfl⟩⟩, ?_⟩
          (repeat (first | with_reducible exact Below.refl _ _ | with_reducible refine bl_drewN ?_ _ | with_reducible refine Below.drew ?_ | with_reducible refine bl_alloc ?_ _ | with_reducible refine Below.alloc ?_ (by first | omega | (simp; done) | (simp; omega)) _ | with_reducible refine Below.setCell ?_ (by first | omega | (simp; done) | (simp; omega)) _ | with_reducible assumption))
      · obtain rfl : k = 32 := by omega
        have Hl := Lib.hid hl
        go_wp2
        refine bodyPost_ret (v := .tuple #[dv (pst s 32), .int .i64 0]) (by simp [results, Try.results8, go_sem]) rfl ⟨⟨_, rfl, .inl ⟨⟨Hl.out, Hok.out⟩, rfl⟩⟩, ?_⟩
        (repeat (first | with_reducible exact Below.refl _ _ | with_reducible refine bl_drewN ?_ _ | with_reducible refine Below.drew ?_ | with_reducible refine bl_alloc ?_ _ | with_reducible refine Below.alloc ?_ (by first | omega | (simp; done) | (simp; omega)) _ | with_reducible refine Below.setCell ?_ (by first | omega | (simp; done) | (simp; omega)) _ | with_reducible assumption))
  · have hno : ¬ pok s := fun h => hl h.1
    have Hno := Lib.hid hno
    clear hno
    go_enter Try.func8, Try.ntmps8
    go_wp2_with fail
    refine bodyPost_ret (v := .tuple #[dv (0, 0, 0, 0), .int .i64 7]) (by simp [results, Try.results8, go_sem]) rfl ⟨⟨_, rfl, .inr ⟨Hno.out, rfl⟩⟩, ?_⟩
    (repeat (first | with_reducible exact Below.refl _ _ | with_reducible refine bl_drewN ?_ _ | with_reducible refine Below.drew ?_ | with_reducible refine bl_alloc ?_ _ | with_reducible refine Below.alloc ?_ (by first | omega | (simp; done) | (simp; omega)) _ | with_reducible refine Below.setCell ?_ (by first | omega | (simp; done) | (simp; omega)) _ | with_reducible assumption))
end Go.Proofs.Ytoiipifoehfcdaa.Dg
