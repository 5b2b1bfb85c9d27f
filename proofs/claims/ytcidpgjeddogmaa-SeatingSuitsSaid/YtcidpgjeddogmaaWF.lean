/- Walks: the statements SeatingSuits, SeatingMany. -/
import Derived.Test.YtcidpgjeddogmaaWD
import Derived.Test.YtcidpgjeddogmaaVD
import Derived.Test.YtcidpgjeddogmaaTU
import Derived.WalkKit
import Derived.WalkSpells
import Derived.WalkLawsBesides
import Derived.Deep.QuietTactic
import Derived.BigQuiet
import Derived.Deep.Draws
import Derived.Deep.AppendLies
import Derived.Laws.OwnMore
import Derived.Laws.BytesArg
import Derived.Lib.Hide
import Derived.Deep.LoopGhost
namespace Go.Proofs.Ytcidpgjeddogmaa.Pl
open Go.RowKit
open Go.Proofs.Ytcidpgjeddogmaa.Mw
open Go.Proofs.Ytcidpgjeddogmaa.St
open Go.Proofs.Ytcidpgjeddogmaa.Tm (cut_any)
set_option linter.unusedVariables false
set_option linter.unusedSimpArgs false

/-- A power of two. -/
def pw : Nat → Int
  | 0 => 1
  | k + 1 => pw k * 2
/-- Each need of the first k kinds is offered. -/
def allU (o n : Int) : Nat → Bool
  | 0 => true
  | k + 1 => if (bits .and .i64 n (pw k) != 0) = true ∧ (bits .and .i64 o (pw k) == 0) = true then false else allU o n k
theorem suits_all : ∀ a b : Fin 64, (bits .andNot .i64 (b.val : Int) (a.val : Int) == 0) = allU (a.val : Int) (b.val : Int) 6 := by decide +kernel
theorem suits_all' {o n : Int} (h1 : 0 ≤ o ∧ o < 64) (h2 : 0 ≤ n ∧ n < 64) : sut ⟨0, 0, o⟩ ⟨0, n⟩ = allU o n 6 := by
  have h := suits_all ⟨o.toNat, by omega⟩ ⟨n.toNat, by omega⟩
  have e1 : ((o.toNat : Nat) : Int) = o := by omega
  have e2 : ((n.toNat : Nat) : Int) = n := by omega
  simp only [e1, e2] at h
  exact h
theorem pw_bd : ∀ k, k < 6 → 1 ≤ pw k ∧ pw k ≤ 32 := by decide
theorem suits_open (a b c d e : Int) (w : World) : Calls Try.prog 23 #[.agg #[.int .i64 a, .int .i64 b, .int .i64 c], .agg #[.int .i64 d, .int .i64 e]] w fun x w' => x = .returned (.bool (sut ⟨a, b, c⟩ ⟨d, e⟩)) ∧ Below w.heap.size w w' := suits_any ⟨a, b, c⟩ ⟨d, e⟩ w
theorem rsuits_open (a b c d e : Int) (w : World) : Calls Try.prog 24 #[.agg #[.int .i64 a, .int .i64 b, .int .i64 c], .agg #[.int .i64 d, .int .i64 e]] w fun x w' => x = .returned (.bool (sut ⟨a, b, c⟩ ⟨d, e⟩)) ∧ Below w.heap.size w w' := rsuits_any ⟨a, b, c⟩ ⟨d, e⟩ w
set_option maxHeartbeats 4000000 in
theorem suits_st (o n : Int) (ho : I64 o) (hn : I64 n) (w : World) : Calls Try.prog 7 #[.int .i64 o, .int .i64 n] w fun e w' => e = .returned (.bool true) ∧ Below w.heap.size w w' := by
  have H1 := Lib.hid (cut_any o 64 (by omega) (by omega) ho)
  have H2 := Lib.hid (cut_any n 64 (by omega) (by omega) hn)
  have b1 := Int.emod_nonneg o (show (64 : Int) ≠ 0 by omega)
  have b2 := Int.emod_lt_of_pos o (show (0 : Int) < 64 by omega)
  have b3 := Int.emod_nonneg n (show (64 : Int) ≠ 0 by omega)
  have b4 := Int.emod_lt_of_pos n (show (0 : Int) < 64 by omega)
  generalize o % 64 = o' at H1 b1 b2
  generalize n % 64 = n' at H2 b3 b4
  have HA := Lib.hid (suits_all' (o := o') (n := n') ⟨b1, b2⟩ ⟨b3, b4⟩)
  clear ho hn
  have g0 : Bk ((w.alloc (.cells #[.int .i64 0, .int .i64 0, .int .i64 o] 35)).alloc (.cells #[.int .i64 0, .int .i64 n] 37)) w.heap.size 35 #[.int .i64 0, .int .i64 0, .int .i64 o] := (Bk.new _ _ _).alloc _
  have g1 : Bk ((w.alloc (.cells #[.int .i64 0, .int .i64 0, .int .i64 o] 35)).alloc (.cells #[.int .i64 0, .int .i64 n] 37)) (w.heap.size + 1) 37 #[.int .i64 0, .int .i64 n] := Bk.new' (by simp)
  have hb : Below w.heap.size w ((w.alloc (.cells #[.int .i64 0, .int .i64 0, .int .i64 o] 35)).alloc (.cells #[.int .i64 0, .int .i64 n] 37)) := by (repeat (first | with_reducible exact Below.refl _ _ | with_reducible refine bl_drewN ?_ _ | with_reducible refine Below.drew ?_ | with_reducible refine bl_alloc ?_ _ | with_reducible refine Below.alloc ?_ (by first | omega | (simp; done) | (simp; omega)) _ | with_reducible refine Below.setCell ?_ (by first | omega | (simp; done) | (simp; omega)) _ | with_reducible assumption))
  go_enter Try.func7, Try.ntmps7
  go_upto_region 2 with fail
  generalize ((w.alloc (.cells #[.int .i64 0, .int .i64 0, .int .i64 o] 35)).alloc (.cells #[.int .i64 0, .int .i64 n] 37)) = w1 at g0 g1 hb ⊢
  generalize w.heap.size + 1 = gn at g1 ⊢
  go_wp2_with fail
  refine (H1.out _).mono ?_
  rintro e w2 ⟨rfl, rfl⟩
  go_wp2_with fail
  refine (H2.out _).mono ?_
  rintro e w2 ⟨rfl, rfl⟩
  have g2 := (g0.alloc (.cells #[.int .i64 0, .int .i64 0, .int .i64 o'] 35)).alloc (.cells #[.int .i64 0, .int .i64 n'] 37)
  have g3 := (g1.alloc (.cells #[.int .i64 0, .int .i64 0, .int .i64 o'] 35)).alloc (.cells #[.int .i64 0, .int .i64 n'] 37)
  have g4 : Bk ((w1.alloc (.cells #[.int .i64 0, .int .i64 0, .int .i64 o'] 35)).alloc (.cells #[.int .i64 0, .int .i64 n'] 37)) w1.heap.size 35 #[.int .i64 0, .int .i64 0, .int .i64 o'] := (Bk.new _ _ _).alloc _
  have g5 : Bk ((w1.alloc (.cells #[.int .i64 0, .int .i64 0, .int .i64 o'] 35)).alloc (.cells #[.int .i64 0, .int .i64 n'] 37)) (w1.heap.size + 1) 37 #[.int .i64 0, .int .i64 n'] := Bk.new' (by simp)
  have hb2 : Below w.heap.size w ((w1.alloc (.cells #[.int .i64 0, .int .i64 0, .int .i64 o'] 35)).alloc (.cells #[.int .i64 0, .int .i64 n'] 37)) := by (repeat (first | with_reducible exact Below.refl _ _ | with_reducible refine bl_drewN ?_ _ | with_reducible refine Below.drew ?_ | with_reducible refine bl_alloc ?_ _ | with_reducible refine Below.alloc ?_ (by first | omega | (simp; done) | (simp; omega)) _ | with_reducible refine Below.setCell ?_ (by first | omega | (simp; done) | (simp; omega)) _ | with_reducible assumption))
  go_upto_region 3 with fail
  generalize ((w1.alloc (.cells #[.int .i64 0, .int .i64 0, .int .i64 o'] 35)).alloc (.cells #[.int .i64 0, .int .i64 n'] 37)) = w3 at g2 g3 g4 g5 hb2 ⊢
  clear g0 g1 hb
  generalize w1.heap.size + 1 = gn' at g5 ⊢
  generalize w1.heap.size = go' at g4 ⊢
  have c0 : w3.cell? ⟨gn', 1, none⟩ = some (.int .i64 n') := g5.cell 1
  have c1 : w3.cell? ⟨go', 2, none⟩ = some (.int .i64 o') := g4.cell 2
  have d0 := g5.lt
  have d1 := g4.lt
  go_wp2_with fail
  go_loop [9, 10] (fun x y => ∃ k : Nat, k ≤ 6 ∧ y = .int .i64 (pw k) ∧ x = .bool (allU o' n' k)) (fun _ y => 128 - (intOf y).toNat)
  case atStart => exact ⟨0, by omega, rfl, rfl⟩
  case round =>
    obtain ⟨k, hk, rfl, rfl⟩ := hrel
    by_cases hlt : k < 6
    · obtain ⟨p1, p2⟩ := pw_bd k hlt
      have hps : pw (k + 1) = pw k * 2 := rfl
      have Hps := Lib.hid hps
      clear hps
      cases e1 : (bits .and .i64 n' (pw k) != 0)
      · have HU : Hid (allU o' n' (k + 1) = allU o' n' k) := by unfold Hid; rw [allU, if_neg (by rw [e1]; simp)]
        go_wp2_with fail
        go_round
        case rel => exact ⟨k + 1, by omega, by rw [Hps.out], by rw [HU.out]⟩
        case measure => simp [intOf]; omega
      · cases e2 : (bits .and .i64 o' (pw k) == 0)
        · have HU : Hid (allU o' n' (k + 1) = allU o' n' k) := by unfold Hid; rw [allU, if_neg (by rw [e2]; simp)]
          go_wp2_with fail
          go_round
          case rel => exact ⟨k + 1, by omega, by rw [Hps.out], by rw [HU.out]⟩
          case measure => simp [intOf]; omega
        · have HU : Hid (allU o' n' (k + 1) = false) := by unfold Hid; rw [allU, if_pos ⟨e1, e2⟩]
          go_wp2_with fail
          go_round
          case rel => exact ⟨k + 1, by omega, by rw [Hps.out], by rw [HU.out]⟩
          case measure => simp [intOf]; omega
    · obtain rfl : k = 6 := by omega
      rw [← HA.out]
      have p6 : pw 6 = 64 := rfl
      rw [p6]
      have c2 : w3.cell? ⟨w.heap.size, 0, none⟩ = some (.int .i64 0) := g2.cell 0
      have c3 : w3.cell? ⟨w.heap.size, 1, none⟩ = some (.int .i64 0) := g2.cell 1
      have c4 : w3.cell? ⟨w.heap.size, 2, none⟩ = some (.int .i64 o) := g2.cell 2
      have c5 : w3.cell? ⟨gn, 0, none⟩ = some (.int .i64 0) := g3.cell 0
      have c6 : w3.cell? ⟨gn, 1, none⟩ = some (.int .i64 n) := g3.cell 1
      have c7 : w3.cell? ⟨go', 0, none⟩ = some (.int .i64 0) := g4.cell 0
      have c8 : w3.cell? ⟨go', 1, none⟩ = some (.int .i64 0) := g4.cell 1
      have c9 : w3.cell? ⟨gn', 0, none⟩ = some (.int .i64 0) := g5.cell 0
      have d2 := g2.lt
      have d3 := g3.lt
      clear p6 hlt hk
      go_wp2_with fail
      refine Mm.region_ext (by kernel_rfl) (by kernel_rfl) ?_; (repeat (first | go_big_quiet_step ((first | (go_at_call 23; exact Mm.calls_ext (suits_open _ _ _ _ _ _)) | (go_at_call 24; exact Mm.calls_ext (rsuits_open _ _ _ _ _ _)) | (go_at_call 20; exact Mm.calls_ext (awake_any _)))) | quiet_step ((first | (go_at_call 23; exact Mm.calls_ext (suits_open _ _ _ _ _ _)) | (go_at_call 24; exact Mm.calls_ext (rsuits_open _ _ _ _ _ _)) | (go_at_call 20; exact Mm.calls_ext (awake_any _)))))); refine wpQuiet_nil ?_
      intro w5 hb5
      go_wp2_with fail
      go_ret
      exact ⟨rfl, bl_trans hb2 hb5⟩
end Go.Proofs.Ytcidpgjeddogmaa.Pl
