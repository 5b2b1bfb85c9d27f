/- Walk: the statement IdentityNears. -/
import Derived.Test.YtpdekglmmgecmaaUJ
import Derived.Test.YtpdekglmmgecmaaUE
import Derived.WalkKit
import Derived.WalkSpells
import Derived.WalkLawsBesides
import Derived.Deep.QuietTactic
import Derived.BigQuiet
import Derived.Deep.Draws
import Derived.Deep.AppendLies
import Derived.Laws.OwnMore
import Derived.Laws.BytesArg
import Derived.Lib.Hide
import Derived.Deep.LoopGhost
import Derived.RegionTactic
namespace Go.Proofs.Ytpdekglmmgecmaa.Id
open Go.RowKit
open Go.Proofs.Ytpdekglmmgecmaa.Mw (Bk RdE)
set_option linter.unusedSimpArgs false
set_option linter.unusedVariables false
set_option linter.unusedSimpArgs false

attribute [local go_sem] conv1d strOfNums_size

set_option maxHeartbeats 4000000 in
theorem nears_any (s : ByteArray) (n a : Int) (by_ : Int) (hs : s.size ≤ maxLen) (hn : I64 n) (ha : I64 a) (w : World) :
    Calls Try.prog 10 #[.string s, .int .i64 n, .int .i64 a, .int .u8 by_] w fun e w' => e = .returned (.bool true) ∧ Below w.heap.size w w' := by
  have K1 := Lib.hid (number_any n hn.1 hn.2)
  have K2 := Lib.hid (cut_any a 9 (by omega) (by omega) ha.1 ha.2)
  have h0 := Int.emod_nonneg a (show (9 : Int) ≠ 0 by omega)
  have h1 := Int.emod_lt_of_pos a (show (0 : Int) < 9 by omega)
  obtain ⟨m, hm⟩ := Int.eq_ofNat_of_zero_le h0
  rw [hm] at h0 h1 K2
  have hsz := fmt_size (n % 100000000)
  generalize fmtS (n % 100000000) = x at *
  have Hz := Lib.hid hsz
  have F1 := Lib.hid (fun W => near_any s hs W)
  have G1 := Lib.hid (fun W => rnear_any s hs W)
  have F2 := Lib.hid (fun W => near_any (S9 (upd (byt x) m by_)) (by rw [S9_size]; unfold maxLen; omega) W)
  have G2 := Lib.hid (fun W => rnear_any (S9 (upd (byt x) m by_)) (by rw [S9_size]; unfold maxLen; omega) W)
  have n1 := nearS_len s
  have n2 := nearS_len (S9 (upd (byt x) m by_))
  clear hs hn ha hm
  have hm9 : (m : Int) ≤ 9 := by omega
  have hm9' : (m : Int) + 1 ≤ 9 := by omega
  go_enter Try.func10, Try.ntmps10
  go_wp2_with fail
  refine (K1.out _).mono ?_
  rintro e w1 ⟨rfl, hb1⟩
  go_wp2_with fail
  refine (K2.out _).mono ?_
  rintro e w2 ⟨rfl, rfl⟩
  go_wp2_with fail
  go_region
  rw [cut_upd x Hz.out (show m < 9 by omega)]
  have hbV : Below w.heap.size w ((w1.alloc (.cells #[.int .u8 by_] 5)).drew) := by (repeat (first | with_reducible exact Below.refl _ _ | with_reducible refine bl_drewN ?_ _ | with_reducible refine Below.drew ?_ | with_reducible refine bl_alloc ?_ _ | with_reducible refine Below.alloc ?_ (by first | omega | (simp; done) | (simp; omega)) _ | with_reducible refine Below.setCell ?_ (by first | omega | (simp; done) | (simp; omega)) _ | with_reducible assumption))
  generalize (w1.alloc (.cells #[.int .u8 by_] 5)).drew = V at hbV ⊢
  generalize S9 (upd (byt x) m by_) = z at F2 G2 n2 ⊢
  generalize nearS s = l1 at F1 G1 n1
  generalize nearS z = l2 at F2 G2 n2
  clear hsz K1 K2 h0 h1 hm9 hm9' Hz hb1
  go_wp2_with fail
  refine (F1.out _).mono ?_
  rintro e w3 ⟨v1, rfl, hs1, hb3⟩
  obtain ⟨A1, c1, rfl, hr1⟩ := hs1.rd
  clear hs1
  go_wp2_with fail
  refine (G1.out _).mono ?_
  rintro e w4 ⟨v2, rfl, hs2, hb4⟩
  obtain ⟨A2, c2, rfl, hr2⟩ := hs2.rd
  clear hs2
  go_wp2_with fail
  refine (texts_any l1 l1 A1 A2 c1 c2 _ (by omega) (by omega) (hr1.old hb4) hr2 rfl).mono ?_
  rintro e w5 ⟨rfl, hb5⟩
  have hc5 := Mw.bl_trans (Mw.bl_trans (Mw.bl_trans hbV hb3) hb4) hb5
  clear hr1 hr2 hb3 hb4 hb5 hbV F1 G1
  go_wp2_with fail
  refine (F2.out _).mono ?_
  rintro e w6 ⟨v3, rfl, hs3, hb6⟩
  obtain ⟨A3, c3, rfl, hr3⟩ := hs3.rd
  clear hs3
  go_wp2_with fail
  refine (G2.out _).mono ?_
  rintro e w7 ⟨v4, rfl, hs4, hb7⟩
  obtain ⟨A4, c4, rfl, hr4⟩ := hs4.rd
  clear hs4
  go_wp2_with fail
  refine (texts_any l2 l2 A3 A4 c3 c4 _ (by omega) (by omega) (hr3.old hb7) hr4 rfl).mono ?_
  rintro e w8 ⟨rfl, hb8⟩
  have hc8 := Mw.bl_trans (Mw.bl_trans (Mw.bl_trans hc5 hb6) hb7) hb8
  clear hr3 hr4 hb6 hb7 hb8 hc5 F2 G2
  go_wp2_with fail
  refine (awake_any _).mono ?_
  rintro e w11 ⟨rfl, hb11⟩
  go_wp2_with fail
  go_ret
  exact ⟨rfl, Mw.bl_trans hc8 hb11⟩
end Go.Proofs.Ytpdekglmmgecmaa.Id
