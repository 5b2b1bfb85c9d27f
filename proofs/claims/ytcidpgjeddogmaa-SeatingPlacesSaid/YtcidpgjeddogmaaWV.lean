/- Walk: the statement SeatingPlaces. -/
import Derived.Test.YtcidpgjeddogmaaWT
import Derived.Test.YtcidpgjeddogmaaWU
import Derived.Test.YtcidpgjeddogmaaWL
import Derived.Test.YtcidpgjeddogmaaWN
import Derived.Test.YtcidpgjeddogmaaTU
import Derived.WalkKit
import Derived.WalkSpells
import Derived.WalkLawsBesides
import Derived.Deep.QuietTactic
import Derived.BigQuiet
import Derived.Deep.Draws
import Derived.Deep.AppendLies
import Derived.Laws.OwnMore
import Derived.Laws.BytesArg
import Derived.Lib.Hide
import Derived.Deep.LoopGhost
namespace Go.Proofs.Ytcidpgjeddogmaa.Pl
open Go.RowKit
open Go.Proofs.Ytcidpgjeddogmaa.Mw
open Go.Proofs.Ytcidpgjeddogmaa.St
open Go.Proofs.Ytcidpgjeddogmaa.Tm (cut_any Tp TI TB next_any range_any one_any new_any)
set_option linter.unusedVariables false
set_option linter.unusedSimpArgs false

set_option maxHeartbeats 8000000 in
set_option maxRecDepth 100000 in
theorem places_st (l : List Int) (A : Option Addr) (c : Nat) (v : Int) (w : World) (hr : RdI w .i64 A l) (hl : l.length ≤ maxLen) (hlc : l.length ≤ c) (hi : ∀ n ∈ l, I64 n) (hv : I64 v) :
    Calls Try.prog 11 #[.slice A l.length c, .int .i64 v] w fun e w' => e = .returned (.bool true) ∧ Below w.heap.size w w' := by
  have HN := Lib.hid (new_any l A c w hr hl hlc hi)
  have HC := Lib.hid (cut_any v 3 (by omega) (by omega) hv)
  have b5 := Int.emod_nonneg v (show (3 : Int) ≠ 0 by omega)
  have b6 := Int.emod_lt_of_pos v (show (0 : Int) < 3 by omega)
  generalize v % 3 = v' at HC b5 b6
  have ev : IntKind.i64.wrap (2 + v') = 2 + v' := IntWalk.i64_in _ (by omega)
  clear hr hl hlc hi hv
  go_enter Try.func11, Try.ntmps11
  go_wp2_with fail
  refine HN.out.mono ?_
  rintro e w1 ⟨rfl, ht1, hb1⟩
  clear HN
  go_wp2_with fail
  refine (rooms_any w.heap.size 12 _ ht1 (by omega)).mono ?_
  rintro e w2 ⟨rs, A1, c1, rfl, hl1, -, -, hr1, ha1, ht2, hg2⟩
  go_wp2_with fail
  refine (needs_any w.heap.size 12 _ ht2 (by omega)).mono ?_
  rintro e w3 ⟨ns, A2, c2, rfl, hl2, -, -, hr2, ha2, ht3, hg3⟩
  have hr1' := rdr_turn hr1 hg3 ha1 (ht1.lt)
  have hb2 : Below w.heap.size w w2 := hb1.grown hg2 hb1.size fun q hq => by cases hq; exact Nat.le_refl _
  have hb3 : Below w.heap.size w w3 := hb2.grown hg3 hb2.size fun q hq => by cases hq; exact Nat.le_refl _
  have t1lt := ht1.lt
  have t2lt := ht2.lt
  clear hb1 hb2 ht1 hr1 ht2 hg2 hg3
  go_wp2_with fail
  refine (HC.out _).mono ?_
  rintro e w4 ⟨rfl, rfl⟩
  go_wp2_with fail
  refine (one_any w.heap.size 12 _ ht3 (by omega) (by omega)).mono ?_
  rintro e w5 ⟨bx, rfl, ht5, hg5⟩
  have hb5 : Below w.heap.size w w5 := hb3.grown hg5 hb3.size fun q hq => by cases hq; exact Nat.le_refl _
  have HR1 := Lib.hid (rdr_turn hr1' hg5 ha1 t1lt)
  have HR2 := Lib.hid (rdr_turn hr2 hg5 ha2 t2lt)
  have m1 : rs.length ≤ maxLen := by unfold maxLen; omega
  have m2 : ns.length ≤ maxLen := by unfold maxLen; omega
  have M1 := Lib.hid m1
  have M2 := Lib.hid m2
  have HK : Hid (∀ u V, Below w5.heap.size w5 V → Calls Try.prog 19 #[.slice A1 rs.length c1, .slice A2 ns.length c2, .int .i64 u] V fun e w' => e = .returned (.int .i64 (chk rs ns u)) ∧ Below V.heap.size V w') := fun u V hV => rcheck_any rs ns u A1 A2 c1 c2 V m1 m2 (HR1.out.old hV) (HR2.out.old hV)
  have HP : Hid (∀ u, Calls Try.prog 36 #[.slice A1 rs.length c1, .slice A2 ns.length c2, .int .i64 u] w5 (PlcP rs ns u w5)) := fun u => place_any rs ns u A1 A2 c1 c2 w5 m1 m2 HR1.out HR2.out
  clear hr1' hr2 ha1 ha2 hb3 ht3 ht5 hg5 t1lt t2lt m1 m2 HC
  cases bx
  · have HP' := Lib.hid (HP.out (2 + v'))
    have HK' := Lib.hid (HK.out (2 + v'))
    clear HP HK
    go_wp2_with fail
    refine HP'.out.mono ?_
    rintro e w7 hp
    clear HP'
    rcases hp with ⟨hc, rfl, hb7⟩ | ⟨hc, l4, A4, c4, rfl, hr4, hs4, hl4, hb7⟩ | ⟨hc, q, hq, hql, A4, c4, rfl, hr7, hb7⟩
    · have t : (chk rs ns (2 + v') != 0) = true := by rw [bne_iff_ne]; exact hc
      clear hc
      generalize chk rs ns (2 + v') = x at *
      go_wp2_with fail
      refine (HK'.out _ hb7).mono ?_
      rintro e w8 ⟨rfl, hb8⟩
      have hb9 := bl_trans (bl_trans hb5 hb7) hb8
      go_wp2_with fail
      refine (awake_any _).mono ?_
      rintro e w9 ⟨rfl, hb10⟩
      have hb11 := bl_trans hb9 hb10
      go_wp2_with fail
      go_ret
      exact ⟨rfl, hb11⟩
    · rw [hc] at HK'
      have HSH : Hid (∀ V, Below w7.heap.size w7 V → Calls Try.prog 34 #[.slice A1 rs.length c1, .slice A2 ns.length c2, .slice A4 l4.length c4] V fun e w' => e = .returned (.bool true) ∧ Below V.heap.size V w') := fun V hV => by
        have h := rshort_any rs ns l4 A1 A2 A4 c1 c2 c4 V M1.out M2.out (by unfold maxLen; omega) (HR1.out.old (bl_trans hb7 hV)) (HR2.out.old (bl_trans hb7 hV)) (hr4.old hV)
        rwa [hs4] at h
      clear hr4 hs4 hl4 hc
      go_wp2_with fail
      refine (HK'.out _ hb7).mono ?_
      rintro e w8 ⟨rfl, hb8⟩
      go_wp2_with fail
      refine (HSH.out _ hb8).mono ?_
      rintro e w9 ⟨rfl, hb9⟩
      have hb10 := bl_trans (bl_trans (bl_trans hb5 hb7) hb8) hb9
      go_wp2_with fail
      refine (awake_any _).mono ?_
      rintro e w9 ⟨rfl, hb11⟩
      have hb12 := bl_trans hb10 hb11
      go_wp2_with fail
      go_ret
      exact ⟨rfl, hb12⟩
    · rw [hc] at HK'
      have PR : Hid (∀ V, Below w7.heap.size w7 V → Calls Try.prog 31 #[.slice A1 rs.length c1, .slice A2 ns.length c2, .int .i64 (2 + v'), .slice A4 ns.length c4] V fun e w' => e = .returned (.bool true) ∧ Below V.heap.size V w') := fun V hV => by
        have h := rright_ok rs ns (2 + v') (asl rs ns (2 + v') q ns.length) A1 A2 A4 c1 c2 c4 V M1.out M2.out (HR1.out.old (bl_trans hb7 hV)) (HR2.out.old (bl_trans hb7 hV)) (hr7.old hV) (asg_right hq)
        rwa [asl_len] at h
      have PC : Hid (∀ V, Below w7.heap.size w7 V → Calls Try.prog 37 #[.slice A1 rs.length c1, .slice A2 ns.length c2, .int .i64 (2 + v'), .slice A4 ns.length c4] V fun e w' => e = .returned (.bool true) ∧ Below V.heap.size V w') := fun V hV => rcanon_ok rs ns (2 + v') q A1 A2 A4 c1 c2 c4 V M1.out M2.out (HR1.out.old (bl_trans hb7 hV)) (HR2.out.old (bl_trans hb7 hV)) hq hql (hr7.old hV)
      clear hr7 hq hql hc
      go_wp2_with fail
      refine (HK'.out _ hb7).mono ?_
      rintro e w8 ⟨rfl, hb8⟩
      go_wp2_with fail
      refine (PR.out _ hb8).mono ?_
      rintro e w9 ⟨rfl, hb9⟩
      have hb10 := bl_trans hb8 hb9
      go_wp2_with fail
      refine (PC.out _ hb10).mono ?_
      rintro e wa ⟨rfl, hb11⟩
      have hb12 := bl_trans (bl_trans hb5 hb7) (bl_trans hb10 hb11)
      go_wp2_with fail
      refine (awake_any _).mono ?_
      rintro e wb ⟨rfl, hb13⟩
      have hb14 := bl_trans hb12 hb13
      go_wp2_with fail
      go_ret
      exact ⟨rfl, hb14⟩
  · have HP' := Lib.hid (HP.out (v))
    have HK' := Lib.hid (HK.out (v))
    clear HP HK
    go_wp2_with fail
    refine HP'.out.mono ?_
    rintro e w7 hp
    clear HP'
    rcases hp with ⟨hc, rfl, hb7⟩ | ⟨hc, l4, A4, c4, rfl, hr4, hs4, hl4, hb7⟩ | ⟨hc, q, hq, hql, A4, c4, rfl, hr7, hb7⟩
    · have t : (chk rs ns (v) != 0) = true := by rw [bne_iff_ne]; exact hc
      clear hc
      generalize chk rs ns (v) = x at *
      go_wp2_with fail
      refine (HK'.out _ hb7).mono ?_
      rintro e w8 ⟨rfl, hb8⟩
      have hb9 := bl_trans (bl_trans hb5 hb7) hb8
      go_wp2_with fail
      refine (awake_any _).mono ?_
      rintro e w9 ⟨rfl, hb10⟩
      have hb11 := bl_trans hb9 hb10
      go_wp2_with fail
      go_ret
      exact ⟨rfl, hb11⟩
    · rw [hc] at HK'
      have HSH : Hid (∀ V, Below w7.heap.size w7 V → Calls Try.prog 34 #[.slice A1 rs.length c1, .slice A2 ns.length c2, .slice A4 l4.length c4] V fun e w' => e = .returned (.bool true) ∧ Below V.heap.size V w') := fun V hV => by
        have h := rshort_any rs ns l4 A1 A2 A4 c1 c2 c4 V M1.out M2.out (by unfold maxLen; omega) (HR1.out.old (bl_trans hb7 hV)) (HR2.out.old (bl_trans hb7 hV)) (hr4.old hV)
        rwa [hs4] at h
      clear hr4 hs4 hl4 hc
      go_wp2_with fail
      refine (HK'.out _ hb7).mono ?_
      rintro e w8 ⟨rfl, hb8⟩
      go_wp2_with fail
      refine (HSH.out _ hb8).mono ?_
      rintro e w9 ⟨rfl, hb9⟩
      have hb10 := bl_trans (bl_trans (bl_trans hb5 hb7) hb8) hb9
      go_wp2_with fail
      refine (awake_any _).mono ?_
      rintro e w9 ⟨rfl, hb11⟩
      have hb12 := bl_trans hb10 hb11
      go_wp2_with fail
      go_ret
      exact ⟨rfl, hb12⟩
    · rw [hc] at HK'
      have PR : Hid (∀ V, Below w7.heap.size w7 V → Calls Try.prog 31 #[.slice A1 rs.length c1, .slice A2 ns.length c2, .int .i64 (v), .slice A4 ns.length c4] V fun e w' => e = .returned (.bool true) ∧ Below V.heap.size V w') := fun V hV => by
        have h := rright_ok rs ns (v) (asl rs ns (v) q ns.length) A1 A2 A4 c1 c2 c4 V M1.out M2.out (HR1.out.old (bl_trans hb7 hV)) (HR2.out.old (bl_trans hb7 hV)) (hr7.old hV) (asg_right hq)
        rwa [asl_len] at h
      have PC : Hid (∀ V, Below w7.heap.size w7 V → Calls Try.prog 37 #[.slice A1 rs.length c1, .slice A2 ns.length c2, .int .i64 (v), .slice A4 ns.length c4] V fun e w' => e = .returned (.bool true) ∧ Below V.heap.size V w') := fun V hV => rcanon_ok rs ns (v) q A1 A2 A4 c1 c2 c4 V M1.out M2.out (HR1.out.old (bl_trans hb7 hV)) (HR2.out.old (bl_trans hb7 hV)) hq hql (hr7.old hV)
      clear hr7 hq hql hc
      go_wp2_with fail
      refine (HK'.out _ hb7).mono ?_
      rintro e w8 ⟨rfl, hb8⟩
      go_wp2_with fail
      refine (PR.out _ hb8).mono ?_
      rintro e w9 ⟨rfl, hb9⟩
      have hb10 := bl_trans hb8 hb9
      go_wp2_with fail
      refine (PC.out _ hb10).mono ?_
      rintro e wa ⟨rfl, hb11⟩
      have hb12 := bl_trans (bl_trans hb5 hb7) (bl_trans hb10 hb11)
      go_wp2_with fail
      refine (awake_any _).mono ?_
      rintro e wb ⟨rfl, hb13⟩
      have hb14 := bl_trans hb12 hb13
      go_wp2_with fail
      go_ret
      exact ⟨rfl, hb14⟩
end Go.Proofs.Ytcidpgjeddogmaa.Pl
