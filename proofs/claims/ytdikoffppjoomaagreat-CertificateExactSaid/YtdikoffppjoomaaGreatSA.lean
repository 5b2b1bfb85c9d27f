/- Walks: powers, keys, members of the group: of the program and of the reference; Mod. -/
import Derived.Test.YtdikoffppjoomaaGreatSP
import Derived.Test.YtdikoffppjoomaaGreatGN
import Derived.Test.YtdikoffppjoomaaGreatMW
import Derived.WalkKit
import Derived.WalkSpells
import Derived.WalkLawsBesides
import Derived.Deep.QuietTactic
import Derived.BigQuiet
import Derived.Deep.Draws
import Derived.Deep.AppendLies
import Derived.Laws.OwnMore
import Derived.Laws.BytesArg
import Derived.Lib.Hide
import Derived.Deep.LoopGhost
namespace Go.Proofs.YtdikoffppjoomaaGreat.Sg
open Go.RowKit Go.Proofs.YtdikoffppjoomaaGreat.Nt Go.Proofs.YtdikoffppjoomaaGreat.Dg
open Go.Proofs.YtdikoffppjoomaaGreat.Mw (I64 ret_int ret_bool)
set_option linter.unusedVariables false
set_option linter.unusedSimpArgs false

set_option maxHeartbeats 400000 in
theorem mod_any (x n : Int) (h0 : 1 ≤ n) (h1 : n ≤ 1099511627776) (hx : I64 x) (w : World) :
    Calls Tryz.prog 9 #[.int .i64 x, .int .i64 n] w fun e w' => e = .returned (.int .i64 (x % n)) ∧ w = w' := by
  obtain ⟨hm, hl, hu⟩ := mod_eq x n h0
  have Hm := Lib.hid hm
  clear hm
  obtain ⟨hx0, hx1⟩ := hx
  by_cases h : 0 ≤ x
  · have e : x.tmod n = x % n := Int.tmod_eq_emod_of_nonneg h
    rw [e] at hl hu
    have Hm2 : Hid ((x % n + n) % n = x % n) := by unfold Hid; rw [← e]; rw [Hm.out, e]
    clear e
    go_enter Tryz.func9, Tryz.ntmps9
    go_wp2
    go_ret
    exact ⟨ret_int Hm2.out, rfl⟩
  · go_enter Tryz.func9, Tryz.ntmps9
    go_wp2
    go_ret
    exact ⟨ret_int (by have := Hm.out; rwa [Int.add_emod_right] at this), rfl⟩

theorem and1 (n : Nat) (h : n < 9223372036854775808) : bits .and .i64 (n : Int) 1 = ((n % 2 : Nat) : Int) := by
  show IntKind.i64.wrap ((BitVec.ofInt 64 (n : Int) &&& BitVec.ofInt 64 1).toNat : Int) = _
  rw [BitVec.toNat_and, BitVec.ofInt_natCast, BitVec.toNat_ofNat, Nat.mod_eq_of_lt (by omega), show (BitVec.ofInt 64 1).toNat = 1 from rfl, Nat.and_one_is_mod]
  exact IntWalk.i64_in _ (by omega)

set_option maxHeartbeats 400000 in
theorem power_any (x n : Int) (hx : I64 x) (hn : I64 n) (w : World) :
    Calls Tryz.prog 84 #[.int .i64 x, .int .i64 n] w fun e w' => e = .returned (.int .i64 (pw x n)) ∧ w = w' := by
  obtain ⟨hx0, hx1⟩ := hx
  obtain ⟨hn0, hn1⟩ := hn
  by_cases hc : x < 0 ∨ 2147483579 ≤ x ∨ n < 0
  · have He := Lib.hid (pw_no x n hc)
    go_enter Tryz.func84, Tryz.ntmps84
    go_wp2_with fail
    all_goals (first | (exfalso; omega) | (go_ret; exact ⟨ret_int He.out.symm, rfl⟩))
  · obtain ⟨a, rfl⟩ := Int.eq_ofNat_of_zero_le (show 0 ≤ x by omega)
    obtain ⟨m, rfl⟩ := Int.eq_ofNat_of_zero_le (show 0 ≤ n by omega)
    have He := Lib.hid (pw_nat a m (by omega))
    have hb1 : decide ((a : Int) < 0) = false := decide_eq_false (by omega)
    have hb2 : decide (2147483579 ≤ (a : Int)) = false := decide_eq_false (by omega)
    have hb3 : decide ((m : Int) < 0) = false := decide_eq_false (by omega)
    go_enter Tryz.func84, Tryz.ntmps84
    go_wp2_with fail
    go_loop [0, 1, 5] (fun x n r => ∃ a' m' r' : Nat, a' < 2147483579 ∧ r' < 2147483579 ∧ m' ≤ m ∧ r' * pwN 2147483579 a' m' % 2147483579 = pwN 2147483579 a m ∧ x = .int .i64 a' ∧ n = .int .i64 m' ∧ r = .int .i64 r') (fun _ n _ => (intOf n).toNat)
    case atStart => exact ⟨a, m, 1, by omega, by omega, by omega, by rw [Nat.one_mul, pw_mm], rfl, rfl, rfl⟩
    case round =>
      obtain ⟨a', m', r', ha', hr', hm', hq, rfl, rfl, rfl⟩ := hrel
      have Hq := Lib.hid hq
      clear hq hb1 hb2 hb3
      by_cases hp : 0 < m'
      · obtain ⟨p0, p1⟩ := mod_bd (r' : Int) (a' : Int) (by omega) (by omega) (by omega) (by omega)
        obtain ⟨q0, q1⟩ := mod_bd (a' : Int) (a' : Int) (by omega) (by omega) (by omega) (by omega)
        by_cases ho : m' % 2 = 1
        · have ha : bits .and .i64 (m' : Int) 1 = 1 := by rw [and1 m' (by omega), ho]; rfl
          have Hs := Lib.hid (step1 2147483579 r' a' m' ho)
          clear ho
          go_wp2_with fail
          go_round
          case rel => exact ⟨a' * a' % 2147483579, m' / 2, r' * a' % 2147483579, Nat.mod_lt _ (by decide), Nat.mod_lt _ (by decide), by omega, by rw [Hs.out, Hq.out], by rw [cM, Int.natCast_mul], by go_num, by rw [cM, Int.natCast_mul]⟩
          case measure => simp [intOf]; omega
        · have ha : bits .and .i64 (m' : Int) 1 = 0 := by rw [and1 m' (by omega), show m' % 2 = 0 by omega]; rfl
          have Hs := Lib.hid (step0 2147483579 r' a' m' ho)
          clear ho
          go_wp2_with fail
          go_round
          case rel => exact ⟨a' * a' % 2147483579, m' / 2, r', Nat.mod_lt _ (by decide), by omega, by omega, by rw [Hs.out, Hq.out], by rw [cM, Int.natCast_mul], by go_num, rfl⟩
          case measure => simp [intOf]; omega
      · obtain rfl : m' = 0 := by omega
        go_wp2_with fail
        go_ret
        refine ⟨ret_int ?_, rfl⟩
        rw [He.out, ← Hq.out, pw_zero _ _ (by decide), Nat.mul_one, Nat.mod_eq_of_lt hr']

set_option maxHeartbeats 400000 in
theorem rpower_ind (k : Nat) : ∀ (x n : Int) (w : World), n ≤ k → I64 x → I64 n →
    Calls Tryz.prog 46 #[.int .i64 x, .int .i64 n] w fun e w' => e = .returned (.int .i64 (pw x n)) ∧ w = w' := by
  induction k with
  | zero =>
    intro x n w hk ⟨hx0, hx1⟩ ⟨hn0, hn1⟩
    by_cases hc : x < 0 ∨ 2147483579 ≤ x ∨ n < 0
    · have He := Lib.hid (pw_no x n hc)
      go_enter Tryz.func46, Tryz.ntmps46
      go_wp2_with fail
      all_goals (first | (exfalso; omega) | (go_ret; exact ⟨ret_int He.out.symm, rfl⟩))
    · obtain rfl : n = 0 := by simp at hk; omega
      have He := Lib.hid (rec_zero x (by omega) (by omega))
      have hb1 : decide (x < 0) = false := decide_eq_false (by omega)
      have hb2 : decide (2147483579 ≤ x) = false := decide_eq_false (by omega)
      clear hc
      go_enter Tryz.func46, Tryz.ntmps46
      go_wp2_with fail
      go_ret
      exact ⟨ret_int He.out.symm, rfl⟩
  | succ k ih =>
    intro x n w hk ⟨hx0, hx1⟩ ⟨hn0, hn1⟩
    by_cases hc : x < 0 ∨ 2147483579 ≤ x ∨ n < 0
    · have He := Lib.hid (pw_no x n hc)
      go_enter Tryz.func46, Tryz.ntmps46
      go_wp2_with fail
      all_goals (first | (exfalso; omega) | (go_ret; exact ⟨ret_int He.out.symm, rfl⟩))
    · have g1 : 0 ≤ x := by omega
      have g2 : x < 2147483579 := by omega
      have g3 : 0 ≤ n := by omega
      have hb1 : decide (x < 0) = false := decide_eq_false (by omega)
      have hb2 : decide (2147483579 ≤ x) = false := decide_eq_false (by omega)
      have hb3 : decide (n < 0) = false := decide_eq_false (by omega)
      clear hc
      by_cases hz : n = 0
      · subst hz
        have He := Lib.hid (rec_zero x g1 g2)
        go_enter Tryz.func46, Tryz.ntmps46
        go_wp2_with fail
        go_ret
        exact ⟨ret_int He.out.symm, rfl⟩
      · have hb4 : (n == 0) = false := by simpa using hz
        obtain ⟨q0, q1⟩ := mod_bd x x g1 (by omega) g1 (by omega)
        have hbd := pw_bd (x * x % 2147483579) (n / 2)
        obtain ⟨p0, p1⟩ := mod_bd (pw (x * x % 2147483579) (n / 2)) x (by omega) (by omega) g1 (by omega)
        have hr := ih (x * x % 2147483579) (n / 2) w (by omega) (by unfold I64; omega) (by unfold I64; omega)
        have HR := Lib.hid hr
        clear hr ih
        by_cases ho : n % 2 = 1
        · have He := Lib.hid (rec1 x n g1 g2 (by omega) ho)
          go_enter Tryz.func46, Tryz.ntmps46
          go_wp2_with fail
          refine HR.out.mono ?_
          rintro e w1 ⟨rfl, rfl⟩
          go_wp2_with fail
          go_ret
          exact ⟨ret_int He.out.symm, rfl⟩
        · have He := Lib.hid (rec0 x n g1 g2 (by omega) ho)
          have hb5 : (n % 2 == 1) = false := by simpa using ho
          go_enter Tryz.func46, Tryz.ntmps46
          go_wp2_with fail
          refine HR.out.mono ?_
          rintro e w1 ⟨rfl, rfl⟩
          go_wp2_with fail
          go_ret
          exact ⟨ret_int He.out.symm, rfl⟩
theorem rpower_any (x n : Int) (hx : I64 x) (hn : I64 n) (w : World) :
    Calls Tryz.prog 46 #[.int .i64 x, .int .i64 n] w fun e w' => e = .returned (.int .i64 (pw x n)) ∧ w = w' :=
  rpower_ind n.toNat x n w (by omega) hx hn

/-- A valid secret key. -/
def val (s : Int) : Bool := decide (1 ≤ s ∧ s < 1073741789)
theorem valid_any (s : Int) (w : World) : Calls Tryz.prog 83 #[.int .i64 s] w fun e w' => e = .returned (.bool (val s)) ∧ w = w' := by
  go_enter Tryz.func83, Tryz.ntmps83
  go_wp2_with fail
  all_goals (go_ret; exact ⟨ret_bool (by rw [Bool.eq_iff_iff]; simp only [val, decide_eq_true_eq, Bool.false_eq_true, true_iff, iff_true, false_iff, iff_false]; omega), by first | rfl | (repeat (first | with_reducible exact Below.refl _ _ | with_reducible refine bl_drewN ?_ _ | with_reducible refine Below.drew ?_ | with_reducible refine bl_alloc ?_ _ | with_reducible refine Below.alloc ?_ (by first | omega | (simp; done) | (simp; omega)) _ | with_reducible refine Below.setCell ?_ (by first | omega | (simp; done) | (simp; omega)) _ | with_reducible assumption))⟩)
theorem rvalid_any (s : Int) (w : World) : Calls Tryz.prog 45 #[.int .i64 s] w fun e w' => e = .returned (.bool (val s)) ∧ w = w' := by
  go_enter Tryz.func45, Tryz.ntmps45
  go_wp2_with fail
  all_goals (go_ret; exact ⟨ret_bool (by rw [Bool.eq_iff_iff]; simp only [val, decide_eq_true_eq, Bool.false_eq_true, true_iff, iff_true, false_iff, iff_false]; omega), by first | rfl | (repeat (first | with_reducible exact Below.refl _ _ | with_reducible refine bl_drewN ?_ _ | with_reducible refine Below.drew ?_ | with_reducible refine bl_alloc ?_ _ | with_reducible refine Below.alloc ?_ (by first | omega | (simp; done) | (simp; omega)) _ | with_reducible refine Below.setCell ?_ (by first | omega | (simp; done) | (simp; omega)) _ | with_reducible assumption))⟩)
/-- The public key, and the error. -/
noncomputable def pubk (s : Int) : Int := if val s = true then pw 4 s else 0
noncomputable def pube (s : Int) : Int := if val s = true then 0 else 2
theorem pub_yes (s : Int) (h : val s = true) : pubk s = pw 4 s ∧ pube s = 0 := ⟨if_pos h, if_pos h⟩
theorem pub_no (s : Int) (h : val s = false) : pubk s = 0 ∧ pube s = 2 := ⟨if_neg (by simp [h]), if_neg (by simp [h])⟩
theorem ret2 {a b c d : Int} (h : a = c ∧ b = d) : Ending.returned (.tuple #[.int .i64 c, .int .i64 d]) = .returned (.tuple #[.int .i64 a, .int .i64 b]) := by rw [h.1, h.2]

set_option maxHeartbeats 400000 in
theorem public_any (s : Int) (hs : I64 s) (w : World) :
    Calls Tryz.prog 43 #[.int .i64 s] w fun e w' => e = .returned (.tuple #[.int .i64 (pubk s), .int .i64 (pube s)]) ∧ w = w' := by
  cases hv : val s
  · have He := Lib.hid (pub_no s hv)
    go_enter Tryz.func43, Tryz.ntmps43
    go_wp2_with (go_at_call 83; refine (valid_any _ _).mono ?_; rintro e w' ⟨rfl, rfl⟩)
    go_ret2
    exact ⟨ret2 He.out, rfl⟩
  · have He := Lib.hid (pub_yes s hv)
    have Hs := Lib.hid hs
    clear hs
    go_enter Tryz.func43, Tryz.ntmps43
    go_wp2_with (first | (go_at_call 83; refine (valid_any _ _).mono ?_; rintro e w' ⟨rfl, rfl⟩) | (go_at_call 84; refine (power_any _ _ (by unfold I64; omega) Hs.out _).mono ?_; rintro e w' ⟨rfl, rfl⟩))
    go_ret2
    exact ⟨ret2 He.out, rfl⟩
set_option maxHeartbeats 400000 in
theorem rpublic_any (s : Int) (hs : I64 s) (w : World) :
    Calls Tryz.prog 10 #[.int .i64 s] w fun e w' => e = .returned (.tuple #[.int .i64 (pubk s), .int .i64 (pube s)]) ∧ w = w' := by
  cases hv : val s
  · have He := Lib.hid (pub_no s hv)
    go_enter Tryz.func10, Tryz.ntmps10
    go_wp2_with (go_at_call 45; refine (rvalid_any _ _).mono ?_; rintro e w' ⟨rfl, rfl⟩)
    go_ret2
    exact ⟨ret2 He.out, rfl⟩
  · have He := Lib.hid (pub_yes s hv)
    have Hs := Lib.hid hs
    clear hs
    go_enter Tryz.func10, Tryz.ntmps10
    go_wp2_with (first | (go_at_call 45; refine (rvalid_any _ _).mono ?_; rintro e w' ⟨rfl, rfl⟩) | (go_at_call 46; refine (rpower_any _ _ (by unfold I64; omega) Hs.out _).mono ?_; rintro e w' ⟨rfl, rfl⟩))
    go_ret2
    exact ⟨ret2 He.out, rfl⟩

theorem mem_no (x : Int) (h : ¬ (1 ≤ x ∧ x < 2147483579)) : mem x = false := decide_eq_false (fun ⟨a, b, _⟩ => h ⟨a, b⟩)
theorem mem_eq (x : Int) (h1 : 1 ≤ x) (h2 : x < 2147483579) : mem x = (pw x 1073741789 == 1) := by
  unfold mem
  rw [Bool.eq_iff_iff, decide_eq_true_iff, beq_iff_eq]
  exact ⟨fun h => h.2.2, fun h => ⟨h1, h2, h⟩⟩
set_option maxHeartbeats 400000 in
theorem member_any (x : Int) (w : World) : Calls Tryz.prog 95 #[.int .i64 x] w fun e w' => e = .returned (.bool (mem x)) ∧ w = w' := by
  by_cases h : 1 ≤ x ∧ x < 2147483579
  · obtain ⟨h1, h2⟩ := h
    have He := Lib.hid (mem_eq x h1 h2)
    go_enter Tryz.func95, Tryz.ntmps95
    go_wp2_with (go_at_call 84; refine (power_any _ _ (by unfold I64; omega) (by unfold I64; omega) _).mono ?_; rintro e w' ⟨rfl, rfl⟩)
    go_ret
    exact ⟨ret_bool He.out.symm, rfl⟩
  · have He := Lib.hid (mem_no x h)
    go_enter Tryz.func95, Tryz.ntmps95
    go_wp2_with fail
    all_goals (first | (exfalso; omega) | (go_ret; exact ⟨ret_bool He.out.symm, rfl⟩))
set_option maxHeartbeats 400000 in
theorem rmember_any (x : Int) (w : World) : Calls Tryz.prog 98 #[.int .i64 x] w fun e w' => e = .returned (.bool (mem x)) ∧ w = w' := by
  by_cases h : 1 ≤ x ∧ x < 2147483579
  · obtain ⟨h1, h2⟩ := h
    have He := Lib.hid (mem_eq x h1 h2)
    go_enter Tryz.func98, Tryz.ntmps98
    go_wp2_with (go_at_call 46; refine (rpower_any _ _ (by unfold I64; omega) (by unfold I64; omega) _).mono ?_; rintro e w' ⟨rfl, rfl⟩)
    go_ret
    exact ⟨ret_bool He.out.symm, rfl⟩
  · have He := Lib.hid (mem_no x h)
    go_enter Tryz.func98, Tryz.ntmps98
    go_wp2_with fail
    all_goals (first | (exfalso; omega) | (go_ret; exact ⟨ret_bool He.out.symm, rfl⟩))
end Go.Proofs.YtdikoffppjoomaaGreat.Sg
