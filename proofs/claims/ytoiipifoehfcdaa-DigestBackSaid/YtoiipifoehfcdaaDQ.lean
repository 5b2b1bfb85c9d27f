/- Walk: the statement DigestBack. -/
import Derived.Test.YtoiipifoehfcdaaDP
import Derived.WalkKit
import Derived.WalkSpells
import Derived.WalkLawsBesides
import Derived.Deep.QuietTactic
import Derived.BigQuiet
import Derived.Deep.Draws
import Derived.Deep.AppendLies
import Derived.Laws.OwnMore
import Derived.Laws.BytesArg
import Derived.Lib.Hide
import Derived.Deep.LoopGhost
namespace Go.Proofs.Ytoiipifoehfcdaa.Dg
open Go.RowKit

theorem no_A (T : ByteArray) (h : pok (⟨#[65]⟩ ++ T)) : False := by
  have h0 := h.2 0 (by omega)
  have : byt (⟨#[65]⟩ ++ T) 0 = 65 := by
    unfold byt
    rw [ByteArray.data_append, Array.toList_append]
    rfl
  rw [this] at h0
  exact absurd h0 (by decide)

attribute [local go_sem] eq_dig eq_arr

set_option maxHeartbeats 400000 in
theorem back_any (s : St) (h : W4 s) (w : World) :
    Calls Try.prog 3 #[dv s] w fun e w' => e = .returned (.bool true) ∧ Below w.heap.size w w' := by
  obtain ⟨T, hT⟩ : ∃ T, strOfNums (tx s 32) = T := ⟨_, rfl⟩
  have htext := Lib.hid (text_any s)
  rw [hT] at htext
  have hsz : T.size = 32 := by rw [← hT, strOfNums_size, tx_len]
  have hp1 := Lib.hid (parse_ok T (by rw [hsz]; decide) (by rw [← hT]; exact pok_tx s))
  rw [show pst T 32 = s by rw [← hT]; exact parse_text s h] at hp1
  clear hT h
  go_enter Try.func3, Try.ntmps3
  go_wp2_with fail
  refine (htext.out _).mono ?_
  rintro e w1 ⟨rfl, hb1⟩
  have hD1 : Blk4 w1 (w.heap.size + 1) s := Blk4.below (by unfold Blk4; go_simp) hb1 (by simp)
  have hs1 : w.heap.size + 1 < w1.heap.size := by have := hb1.size; simp at this; omega
  have hc1 : Below w.heap.size w w1 := Below.trans (by (repeat (first | with_reducible exact Below.refl _ _ | with_reducible refine bl_drewN ?_ _ | with_reducible refine Below.drew ?_ | with_reducible refine Below.alloc ?_ (by simp <;> omega) _ | with_reducible refine Below.setCell ?_ (by simp <;> omega) _ | with_reducible assumption))) (hb1.mono (by simp; omega))
  clear hb1
  go_wp2_with fail
  refine (hp1.out _).mono ?_
  rintro e w2 ⟨rfl, hb2⟩
  have hD2 := hD1.below hb2 hs1
  have hs2 : w.heap.size + 1 < w2.heap.size := by have := hb2.size; omega
  have hc2 : Below w.heap.size w w2 := hc1.trans (hb2.mono hc1.size)
  clear hb2 hD1 hs1 hc1
  go_wp2_with fail
  refine (parse_no _ ?ha ?hb _).mono ?_
  case ha => rw [ByteArray.size_append, hsz]; decide
  case hb => intro hp; have := hp.1; rw [ByteArray.size_append, hsz] at this; exact absurd this (by decide)
  rintro e w3 ⟨rfl, hb3⟩
  have hX3 : Blk4 w3 w2.heap.size s := Blk4.below (by unfold Blk4; go_simp) hb3 (by simp)
  have hD3 : Blk4 w3 (w.heap.size + 1) s := Blk4.below (hD2.below ((Below.refl _ _).alloc (Nat.le_refl _) _) hs2) hb3 (by simp; omega)
  have hs3 : w2.heap.size < w3.heap.size := by have := hb3.size; simp at this; omega
  have hc3 : Below w.heap.size w w3 := Below.trans (hc2.alloc hc2.size _) (hb3.mono (by have := hc2.size; simp; omega))
  clear hb3 hD2
  go_wp2_with fail
  refine (parse_no _ ?ha ?hb _).mono ?_
  case ha => simp [hsz, maxLen]
  case hb => intro hp; have := hp.1; simp [hsz] at this
  rintro e w4 ⟨rfl, hb4⟩
  have hX4 : Blk4 w4 w2.heap.size s := Blk4.below (hX3.below ((Below.refl _ _).alloc (Nat.le_refl _) _) hs3) hb4 (by simp; omega)
  have hD4 : Blk4 w4 (w.heap.size + 1) s := Blk4.below (hD3.below ((Below.refl _ _).alloc (Nat.le_refl _) _) (by omega)) hb4 (by simp; omega)
  have hs4 : w2.heap.size < w4.heap.size := by have := hb4.size; simp at this; omega
  have hc4 : Below w.heap.size w w4 := Below.trans (hc3.alloc hc3.size _) (hb4.mono (by have := hc3.size; simp; omega))
  clear hb4 hD3 hX3
  go_wp2_with fail
  refine (parse_no _ ?ha ?hb _).mono ?_
  case ha =>
    have h65 : (ByteArray.mk #[65]).size = 1 := rfl
    rw [ByteArray.size_append, h65]; simp [hsz, maxLen]
  case hb => exact fun hp => no_A _ hp
  rintro e w5 ⟨rfl, hb5⟩
  have hX5 : Blk4 w5 w2.heap.size s := Blk4.below (hX4.below ((Below.refl _ _).alloc (Nat.le_refl _) _) hs4) hb5 (by simp; omega)
  have hD5 : Blk4 w5 (w.heap.size + 1) s := Blk4.below (hD4.below ((Below.refl _ _).alloc (Nat.le_refl _) _) (by omega)) hb5 (by simp; omega)
  have hs5 : w2.heap.size < w5.heap.size := by have := hb5.size; simp at this; omega
  have hc5 : Below w.heap.size w w5 := Below.trans (hc4.alloc hc4.size _) (hb5.mono (by have := hc4.size; simp; omega))
  clear hb5 hD4 hX4
  obtain ⟨c0, c1, c2, c3, _⟩ := id hX5
  obtain ⟨d0, d1, d2, d3, _⟩ := id hD5
  have q := eqb_self (s.1, s.2.1, s.2.2.1, s.2.2.2)
  have hs6 : w.heap.size + 1 < w5.heap.size := by omega
  go_wp2_with fail
  refine (sane_any _).mono ?_
  rintro e w6 ⟨rfl, hb6⟩
  have hc6 : Below w.heap.size w w6 := Below.trans (hc5.alloc hc5.size _) (hb6.mono (by have := hc5.size; simp; omega))
  go_wp2
  go_ret
  exact ⟨rfl, hc6⟩
end Go.Proofs.Ytoiipifoehfcdaa.Dg
