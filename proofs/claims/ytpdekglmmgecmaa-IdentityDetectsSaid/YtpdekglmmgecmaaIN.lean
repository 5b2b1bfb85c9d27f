/- Walk: the statement IdentityParses. -/
import Derived.Test.YtpdekglmmgecmaaIM
import Derived.WalkKit
import Derived.WalkSpells
import Derived.WalkLawsBesides
import Derived.Deep.QuietTactic
import Derived.BigQuiet
import Derived.Deep.Draws
import Derived.Deep.AppendLies
import Derived.Laws.OwnMore
import Derived.Laws.BytesArg
import Derived.Lib.Hide
import Derived.Deep.LoopGhost
import Derived.RegionTactic
namespace Go.Proofs.Ytpdekglmmgecmaa.Id
open Go.RowKit
set_option linter.unusedSimpArgs false
set_option linter.unusedVariables false
set_option linter.unusedSimpArgs false

theorem conv1d (W : World) (g : Nat) (x : Int) (hg : g = W.heap.size) : (convert 34 9 (.slice (some ⟨g, 0, none⟩) 1 1)).run Try.prog (W.alloc (.cells #[.int .u8 x] 5)).drew = .ok (.string (strOfNums [x])) (W.alloc (.cells #[.int .u8 x] 5)).drew := by
  subst hg
  refine run_convert_bytes_arg (P := Try.prog) _ 34 5 Try.underlying34 Try.underlying5 W.heap.size 0 1 1 [x] rfl (fun i hi => ?_) 9 Try.underlying9
  have : i = 0 := by omega
  subst this
  show (W.alloc _).cell? _ = _
  rw [World.cell?_alloc_at _ _ _ _ rfl]
  rfl

attribute [local go_sem] conv1d strOfNums_size

set_option maxHeartbeats 1000000 in
theorem parses_any (s : ByteArray) (n a : Int) (by_ : Int) (hs : s.size ≤ maxLen) (hn : I64 n) (ha : I64 a) (w : World) :
    Calls Try.prog 4 #[.string s, .int .i64 n, .int .i64 a, .int .u8 by_] w fun e w' => e = .returned (.bool true) ∧ Below w.heap.size w w' := by
  have K1 := Lib.hid (number_any n hn.1 hn.2)
  have K2 := Lib.hid (cut_any a 9 (by omega) (by omega) ha.1 ha.2)
  have h0 := Int.emod_nonneg a (show (9 : Int) ≠ 0 by omega)
  have h1 := Int.emod_lt_of_pos a (show (0 : Int) < 9 by omega)
  obtain ⟨m, hm⟩ := Int.eq_ofNat_of_zero_le h0
  rw [hm] at h0 h1 K2
  have hsz := fmt_size (n % 100000000)
  generalize fmtS (n % 100000000) = x at *
  have Hs := Lib.hid hs
  clear hs hn ha hm
  go_enter Try.func4, Try.ntmps4
  go_wp2_with fail
  refine (parse_any s Hs.out _).mono ?_
  rintro e w1 ⟨rfl, hb1⟩
  have hz1 : w.heap.size + 0 ≤ w1.heap.size := by have := hb1.size; first | omega | (simp at this; omega)
  have hk1 := bcell hb1 (w.heap.size + 0) (by first | omega | (simp; done) | (simp; omega))
  have hc1 : Below w.heap.size w w1 := bl_trans (by (repeat (first | with_reducible exact Below.refl _ _ | with_reducible refine bl_drewN ?_ _ | with_reducible refine Below.drew ?_ | with_reducible refine bl_alloc ?_ _ | with_reducible refine Below.alloc ?_ (by first | omega | (simp; done) | (simp; omega)) _ | with_reducible refine Below.setCell ?_ (by first | omega | (simp; done) | (simp; omega)) _ | with_reducible assumption))) hb1
  clear hb1
  go_wp2_with fail
  refine (rparse_any s Hs.out _).mono ?_
  rintro e w2 ⟨rfl, hb2⟩
  have q2 : Blk3 w2 w1.heap.size (pc s) (py s) (pk s) := Blk3.below (by unfold Blk3; go_simp) hb2 (by simp)
  have l2 : w1.heap.size < w2.heap.size := by have := hb2.size; simp at this; omega
  have hz2 : w.heap.size + 0 ≤ w2.heap.size := by have := hb2.size; first | omega | (simp at this; omega)
  have hk2 := bcell hb2 (w.heap.size + 0) (by first | omega | (simp; done) | (simp; omega))
  have hc2 : Below w.heap.size w w2 := bl_trans (by (repeat (first | with_reducible exact Below.refl _ _ | with_reducible refine bl_drewN ?_ _ | with_reducible refine Below.drew ?_ | with_reducible refine bl_alloc ?_ _ | with_reducible refine Below.alloc ?_ (by first | omega | (simp; done) | (simp; omega)) _ | with_reducible refine Below.setCell ?_ (by first | omega | (simp; done) | (simp; omega)) _ | with_reducible assumption))) hb2
  clear hb2
  go_wp2_with fail
  refine (K1.out _).mono ?_
  rintro e w3 ⟨rfl, hb3⟩
  have q3 : Blk3 w3 w1.heap.size (pc s) (py s) (pk s) := Blk3.below (q2.below ((Below.refl _ _).alloc (Nat.le_refl _) _) l2) hb3 (by simp; omega)
  have r3 : Blk3 w3 w2.heap.size (pc s) (py s) (pk s) := Blk3.below (by unfold Blk3; go_simp) hb3 (by simp)
  have l3 : w2.heap.size < w3.heap.size := by have := hb3.size; simp at this; omega
  have hz3 : w.heap.size + 0 ≤ w3.heap.size := by have := hb3.size; first | omega | (simp at this; omega)
  have hk3 := bcell hb3 (w.heap.size + 0) (by first | omega | (simp; done) | (simp; omega))
  have hc3 : Below w.heap.size w w3 := bl_trans (by (repeat (first | with_reducible exact Below.refl _ _ | with_reducible refine bl_drewN ?_ _ | with_reducible refine Below.drew ?_ | with_reducible refine bl_alloc ?_ _ | with_reducible refine Below.alloc ?_ (by first | omega | (simp; done) | (simp; omega)) _ | with_reducible refine Below.setCell ?_ (by first | omega | (simp; done) | (simp; omega)) _ | with_reducible assumption))) hb3
  clear hb3
  go_wp2_with fail
  refine (K2.out _).mono ?_
  rintro e w3 ⟨rfl, rfl⟩
  go_wp2_with fail
  have hm9 : (m : Int) ≤ 9 := by omega
  have hm9' : (m : Int) + 1 ≤ 9 := by omega
  go_region
  have htz : (x.extract 0 m ++ strOfNums [by_] ++ x.extract (m + 1) 9).size ≤ maxLen := by
    simp [ByteArray.size_append, strOfNums_size, hsz, maxLen]; omega
  generalize x.extract 0 m ++ strOfNums [by_] ++ x.extract (m + 1) 9 = t at *
  have Ht := Lib.hid htz
  clear htz
  have q4 : Blk3 (w3.alloc (.cells #[.int .u8 by_] 5)).drew w1.heap.size (pc s) (py s) (pk s) := q3.below (B := w3.heap.size) (by (repeat (first | with_reducible exact Below.refl _ _ | with_reducible refine bl_drewN ?_ _ | with_reducible refine Below.drew ?_ | with_reducible refine bl_alloc ?_ _ | with_reducible refine Below.alloc ?_ (by first | omega | (simp; done) | (simp; omega)) _ | with_reducible refine Below.setCell ?_ (by first | omega | (simp; done) | (simp; omega)) _ | with_reducible assumption))) (by omega)
  have r4 : Blk3 (w3.alloc (.cells #[.int .u8 by_] 5)).drew w2.heap.size (pc s) (py s) (pk s) := r3.below (B := w3.heap.size) (by (repeat (first | with_reducible exact Below.refl _ _ | with_reducible refine bl_drewN ?_ _ | with_reducible refine Below.drew ?_ | with_reducible refine bl_alloc ?_ _ | with_reducible refine Below.alloc ?_ (by first | omega | (simp; done) | (simp; omega)) _ | with_reducible refine Below.setCell ?_ (by first | omega | (simp; done) | (simp; omega)) _ | with_reducible assumption))) (by omega)
  have l4 : w2.heap.size < (w3.alloc (.cells #[.int .u8 by_] 5)).drew.heap.size := by simp; omega
  have hc4 : Below w.heap.size w (w3.alloc (.cells #[.int .u8 by_] 5)).drew := by (repeat (first | with_reducible exact Below.refl _ _ | with_reducible refine bl_drewN ?_ _ | with_reducible refine Below.drew ?_ | with_reducible refine bl_alloc ?_ _ | with_reducible refine Below.alloc ?_ (by first | omega | (simp; done) | (simp; omega)) _ | with_reducible refine Below.setCell ?_ (by first | omega | (simp; done) | (simp; omega)) _ | with_reducible assumption))
  generalize (w3.alloc (.cells #[.int .u8 by_] 5)).drew = w4 at *
  clear q3 r3 l3 hz3 hk3 hc3 q2 hk2 hk1 hz1 hz2 hm9 hm9'
  go_wp2_with fail
  refine (parse_any t Ht.out _).mono ?_
  rintro e w5 ⟨rfl, hb5⟩
  have q5 : Blk3 w5 w1.heap.size (pc s) (py s) (pk s) := q4.below hb5 (by omega)
  have r5 : Blk3 w5 w2.heap.size (pc s) (py s) (pk s) := r4.below hb5 (by omega)
  have l5 : w2.heap.size < w5.heap.size := by have := hb5.size; omega
  have hc5 : Below w.heap.size w w5 := bl_trans (by (repeat (first | with_reducible exact Below.refl _ _ | with_reducible refine bl_drewN ?_ _ | with_reducible refine Below.drew ?_ | with_reducible refine bl_alloc ?_ _ | with_reducible refine Below.alloc ?_ (by first | omega | (simp; done) | (simp; omega)) _ | with_reducible refine Below.setCell ?_ (by first | omega | (simp; done) | (simp; omega)) _ | with_reducible assumption))) hb5
  clear hb5 q4 r4
  go_wp2_with fail
  refine (rparse_any t Ht.out _).mono ?_
  rintro e w6 ⟨rfl, hb6⟩
  have q6 : Blk3 w6 w1.heap.size (pc s) (py s) (pk s) := Blk3.below (q5.below ((Below.refl _ _).alloc (Nat.le_refl _) _) (by omega)) hb6 (by simp; omega)
  have r6 : Blk3 w6 w2.heap.size (pc s) (py s) (pk s) := Blk3.below (r5.below ((Below.refl _ _).alloc (Nat.le_refl _) _) (by omega)) hb6 (by simp; omega)
  have t6 : Blk3 w6 w5.heap.size (pc t) (py t) (pk t) := Blk3.below (by unfold Blk3; go_simp) hb6 (by simp)
  have l6 : w5.heap.size < w6.heap.size := by have := hb6.size; simp at this; omega
  have hc6 : Below w.heap.size w w6 := bl_trans (by (repeat (first | with_reducible exact Below.refl _ _ | with_reducible refine bl_drewN ?_ _ | with_reducible refine Below.drew ?_ | with_reducible refine bl_alloc ?_ _ | with_reducible refine Below.alloc ?_ (by first | omega | (simp; done) | (simp; omega)) _ | with_reducible refine Below.setCell ?_ (by first | omega | (simp; done) | (simp; omega)) _ | with_reducible assumption))) hb6
  clear hb6 q5 r5
  obtain ⟨a0, a1, a2, _⟩ := id q6
  obtain ⟨b0, b1, b2, _⟩ := id r6
  obtain ⟨c0, c1, c2, _⟩ := id t6
  have la : w1.heap.size < w6.heap.size := by omega
  have lb : w2.heap.size < w6.heap.size := by omega
  have na : w1.heap.size ≠ w6.heap.size := by omega
  have nb : w2.heap.size ≠ w6.heap.size := by omega
  have nc : w5.heap.size ≠ w6.heap.size := by omega
  go_wp2_with fail
  refine (awake_any _).mono ?_
  rintro e w7 ⟨rfl, hb7⟩
  have hc7 : Below w.heap.size w w7 := bl_trans (by (repeat (first | with_reducible exact Below.refl _ _ | with_reducible refine bl_drewN ?_ _ | with_reducible refine Below.drew ?_ | with_reducible refine bl_alloc ?_ _ | with_reducible refine Below.alloc ?_ (by first | omega | (simp; done) | (simp; omega)) _ | with_reducible refine Below.setCell ?_ (by first | omega | (simp; done) | (simp; omega)) _ | with_reducible assumption))) hb7
  go_wp2
  go_ret
  exact ⟨rfl, hc7⟩
end Go.Proofs.Ytpdekglmmgecmaa.Id
