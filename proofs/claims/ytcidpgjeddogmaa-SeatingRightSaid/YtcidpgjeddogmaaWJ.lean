/- Walk: Short of the reference. -/
import Derived.Test.YtcidpgjeddogmaaVZ
import Derived.Test.YtcidpgjeddogmaaVD
import Derived.WalkKit
import Derived.WalkSpells
import Derived.WalkLawsBesides
import Derived.Deep.QuietTactic
import Derived.BigQuiet
import Derived.Deep.Draws
import Derived.Deep.AppendLies
import Derived.Laws.OwnMore
import Derived.Laws.BytesArg
import Derived.Lib.Hide
import Derived.Deep.LoopGhost
namespace Go.Proofs.Ytcidpgjeddogmaa.Pl
open Go.RowKit
open Go.Proofs.Ytcidpgjeddogmaa.Mw
open Go.Proofs.Ytcidpgjeddogmaa.St
set_option linter.unusedVariables false
set_option linter.unusedSimpArgs false

/-- Some of the first k candidates of the set are suited by a room. -/
def anyT (r : Rm) (ns : List Nd) (l : List Int) (k : Nat) : Bool := (l.take k).any fun x => sut r (ge ns x.toNat)
theorem anyT_succ {r : Rm} {ns : List Nd} {l : List Int} {k : Nat} (h : k < l.length) : anyT r ns l (k + 1) = (anyT r ns l k || sut r (ge ns (gi l k).toNat)) := by
  unfold anyT
  rw [List.take_add_one, gi_lt l k h, List.any_append]
  simp
theorem anyT_all {r : Rm} {ns : List Nd} {l : List Int} : anyT r ns l l.length = anyR r ns l := by unfold anyT anyR; rw [List.take_length]
set_option maxHeartbeats 8000000 in
set_option maxRecDepth 100000 in
theorem rshort_any (rs : List Rm) (ns : List Nd) (l : List Int) (A B D : Option Addr) (cA cB cD : Nat) (w : World) (hl1 : rs.length ≤ maxLen) (hl2 : ns.length ≤ maxLen) (hl3 : l.length ≤ maxLen) (hA : RdRm w A rs) (hB : RdNd w B ns) (hD : RdI w .i64 D l) :
    Calls Try.prog 34 #[.slice A rs.length cA, .slice B ns.length cB, .slice D l.length cD] w fun e w' => e = .returned (.bool (shr rs ns l)) ∧ Below w.heap.size w w' := by
  have HCK := Lib.hid (rcheck_any rs ns 2 A B cA cB w hl1 hl2 hA hB)
  have HA := Lib.hid hA
  have HB := Lib.hid hB
  have HD := Lib.hid hD
  clear hA hB hD
  unfold maxLen at hl1 hl2 hl3
  by_cases hc : chk rs ns 2 = 0
  · have hcl := chk_0_inv hc
    have hr8 : (rs.length : Int) ≤ 8 := by omega
    have hn60 : (ns.length : Int) ≤ 60 := by omega
    have HC := Lib.hid hc
    have HR : Hid (∀ i, i < rs.length → rmB (ge rs i) = true) := hcl.2.2.2.1
    rw [hc] at HCK
    have hw0 : IntKind.i64.wrap ((ns.length : Int) - 1) = (ns.length : Int) - 1 := IntWalk.i64_in _ (by omega)
    clear hc hcl
    go_enter Try.func34, Try.ntmps34
    go_wp2_with fail
    refine HCK.out.mono ?_
    rintro e w1 ⟨rfl, hb1⟩
    clear HCK
    go_wp2_with fail
    go_loopw [7] (fun x wr => ∃ k : Nat, k ≤ l.length ∧ x = .int .i64 k ∧ Hid (∀ j, j < k → isB ns.length l j = true) ∧ Below w.heap.size w wr) (fun x _ => l.length - (intOf x).toNat)
    case atStart => exact ⟨0, Nat.zero_le _, rfl, fun j hj => absurd hj (by omega), hb1⟩
    case round =>
      clear hb1
      obtain ⟨k, hk, rfl, hok, hb⟩ := hrel
      by_cases hlt : k < l.length
      · obtain ⟨b, off, rfl, hbl, a0⟩ := (HD.out.old hb) k hlt
        have hk' : (k : Int) < l.length := by omega
        have hk0 : (0 : Int) ≤ k := by omega
        cases h1 : ins (gi l k) 0 ((ns.length : Int) - 1)
        · have H : Hid (shr rs ns l = false) := shr_i (alln_false k hlt (isB_0 fun x => by rw [(ins_iff _ _ _).2 (show 0 ≤ gi l k ∧ gi l k ≤ (ns.length : Int) - 1 by omega)] at h1; cases h1))
          go_wp2_with fail
          refine Mm.region_ext (by kernel_rfl) (by kernel_rfl) ?_; (repeat (first | go_big_quiet_step ((go_at_call 45; exact Mm.calls_same (inside_any _ _ _ _))) | quiet_step ((go_at_call 45; exact Mm.calls_same (inside_any _ _ _ _))))); refine wpQuiet_nil ?_
          intro w3 hb3
          have hb4 := bl_trans hb hb3
          go_wp2_with fail
          go_ret
          exact ⟨by rw [H.out]; rfl, hb4⟩
        · have h1' := (ins_iff _ _ _).1 h1
          have H1' : Hid (0 ≤ gi l k ∧ gi l k < ns.length) := by unfold Hid; omega
          clear h1'
          rcases Nat.eq_zero_or_pos k with hk1 | hk1
          · have HN := Lib.hid (snocA hok.out (isB_y H1'.out (.inl hk1)))
            have t4 : decide ((0 : Int) < k) = false := decide_eq_false (by omega)
            have t3 : decide (0 < k) = false := decide_eq_false (by omega)
            clear hk1
            go_wp2_with fail
            refine Mm.region_ext (by kernel_rfl) (by kernel_rfl) ?_; (repeat (first | go_big_quiet_step ((go_at_call 45; exact Mm.calls_same (inside_any _ _ _ _))) | quiet_step ((go_at_call 45; exact Mm.calls_same (inside_any _ _ _ _))))); refine wpQuiet_nil ?_
            intro w3 hb3
            have hb4 := bl_trans hb hb3
            go_wp2_with fail
            go_roundw
            case rel => exact ⟨k + 1, by omega, by go_num, HN, hb4⟩
            case measure => simp [intOf]; omega
          · obtain ⟨j, rfl⟩ : ∃ j, k = j + 1 := ⟨k - 1, by omega⟩
            obtain ⟨b', off', e', hbl', a1⟩ := (HD.out.old hb) j (by omega)
            cases e'
            have hj0 : (0 : Int) ≤ j := by omega
            have hjl : (j : Int) < l.length := by omega
            have t3 : decide ((0 : Int) < (j : Int) + 1) = true := decide_eq_true (by omega)
            have t5 : IntKind.i64.wrap ((j : Int) + 1 - 1) = (j : Int) := by rw [show (j : Int) + 1 - 1 = j by omega]; exact IntWalk.i64_in _ (by omega)
            have t6 : (j : Int) + 1 - 1 = j := by omega
            by_cases h3 : gi l (j + 1) ≤ gi l j
            · have H : Hid (shr rs ns l = false) := shr_i (alln_false (j + 1) hlt (isB_1 h3))
              have t4 : decide (gi l (j + 1) ≤ gi l j) = true := decide_eq_true h3
              clear h3 hk1
              go_wp2_with fail
              refine Mm.region_ext (by kernel_rfl) (by kernel_rfl) ?_; (repeat (first | go_big_quiet_step ((go_at_call 45; exact Mm.calls_same (inside_any _ _ _ _))) | quiet_step ((go_at_call 45; exact Mm.calls_same (inside_any _ _ _ _))))); refine wpQuiet_nil ?_
              intro w3 hb3
              have hb4 := bl_trans hb hb3
              go_wp2_with fail
              go_ret
              exact ⟨by rw [H.out]; rfl, hb4⟩
            · have HN := Lib.hid (snocA hok.out (isB_y (n := ns.length) H1'.out (.inr (show gi l (j + 1 - 1) < gi l (j + 1) by rw [Nat.add_sub_cancel]; omega))))
              have t4 : decide (gi l (j + 1) ≤ gi l j) = false := decide_eq_false h3
              clear h3 hk1
              go_wp2_with fail
              refine Mm.region_ext (by kernel_rfl) (by kernel_rfl) ?_; (repeat (first | go_big_quiet_step ((go_at_call 45; exact Mm.calls_same (inside_any _ _ _ _))) | quiet_step ((go_at_call 45; exact Mm.calls_same (inside_any _ _ _ _))))); refine wpQuiet_nil ?_
              intro w3 hb3
              have hb4 := bl_trans hb hb3
              go_wp2_with fail
              go_roundw
              case rel => exact ⟨j + 1 + 1, by omega, by go_num, HN, hb4⟩
              case measure => simp [intOf]; omega
      obtain rfl : k = l.length := by omega
      have H := Lib.hid (shr_e HC.out (alln_true hok.out))
      have HIN : Hid (∀ k, k < l.length → 0 ≤ gi l k ∧ gi l k < ns.length) := fun k hk => isB_in (hok.out k hk)
      clear hok hlt hk hw0
      go_wp2_with fail
      go_loopw [8, 9] (fun y x wr => ∃ k : Nat, k ≤ rs.length ∧ x = .int .i64 k ∧ y = .int .i64 (ssm rs ns l k) ∧ Below w.heap.size w wr) (fun _ x _ => rs.length - (intOf x).toNat)
      case atStart => exact ⟨0, Nat.zero_le _, rfl, rfl, hb⟩
      case round =>
        clear hb
        obtain ⟨k, hk, rfl, rfl, hb⟩ := hrel
        have hbd := ssm_bd (ns := ns) (l := l) HR.out k hk
        by_cases hlt : k < rs.length
        · have hk' : (k : Int) < rs.length := by omega
          have hk0 : (0 : Int) ≤ k := by omega
          go_wp2_with fail
          go_loopw [10, 11] (fun y x wr => ∃ i : Nat, i ≤ l.length ∧ x = .int .i64 i ∧ y = .bool (anyT (ge rs k) ns l i) ∧ Below w.heap.size w wr) (fun _ x _ => l.length - (intOf x).toNat)
          case atStart => exact ⟨0, Nat.zero_le _, rfl, rfl, hb⟩
          case round =>
            clear hb
            obtain ⟨i, hi, rfl, rfl, hb⟩ := hrel
            by_cases hil : i < l.length
            · have hi' : (i : Int) < l.length := by omega
              have hi0 : (0 : Int) ≤ i := by omega
              have HT := Lib.hid (anyT_succ (r := ge rs k) (ns := ns) hil)
              obtain ⟨b, off, rfl, hbl, a0⟩ := (HD.out.old hb) i hil
              obtain ⟨i1, i2⟩ := HIN.out i hil
              obtain ⟨nb, no, rfl, hnl, d0, d1⟩ := nd_at (HB.out.old hb) (gi l i).toNat (by omega)
              obtain ⟨rb, ro, rfl, hrl, c0, c1, c2⟩ := rm_at (HA.out.old hb) k hlt
              cases ht : anyT (ge rs k) ns l i
              · rw [ht, Bool.false_or] at HT
                clear ht
                go_wp2_with fail
                refine Mm.region_ext (by kernel_rfl) (by kernel_rfl) ?_; (repeat (first | go_big_quiet_step ((go_at_call 24; exact Mm.calls_ext (rsuits_any (ge rs k) (ge ns (gi l i).toNat) _))) | quiet_step ((go_at_call 24; exact Mm.calls_ext (rsuits_any (ge rs k) (ge ns (gi l i).toNat) _))))); refine wpQuiet_nil ?_
                intro w3 hb3
                have hb4 := bl_trans hb hb3
                go_wp2_with fail
                go_roundw
                case rel => exact ⟨i + 1, by omega, by go_num, by rw [HT.out], hb4⟩
                case measure => simp [intOf]; omega
              · rw [ht, Bool.true_or] at HT
                clear ht
                go_wp2_with fail
                refine Mm.region_ext (by kernel_rfl) (by kernel_rfl) ?_; (repeat (first | go_big_quiet_step (fail) | quiet_step (fail))); refine wpQuiet_nil ?_
                intro w3 hb3
                have hb4 := bl_trans hb hb3
                go_wp2_with fail
                go_roundw
                case rel => exact ⟨i + 1, by omega, by go_num, by rw [HT.out], hb4⟩
                case measure => simp [intOf]; omega
            · obtain rfl : i = l.length := by omega
              obtain ⟨rb, ro, rfl, hrl, c0, c1, c2⟩ := rm_at (HA.out.old hb) k hlt
              obtain ⟨z1, z2, -⟩ := capR_bd (HR.out k hlt)
              have hsu : ssm rs ns l (k + 1) = ssm rs ns l k + if anyT (ge rs k) ns l l.length = true then (ge rs k).r * (ge rs k).c else 0 := by rw [anyT_all]; rfl
              cases ht : anyT (ge rs k) ns l l.length
              · rw [ht, if_neg (by simp), Int.add_zero] at hsu
                have Hsu := Lib.hid hsu
                clear hsu ht
                go_wp2_with fail
                go_roundw
                case rel => exact ⟨k + 1, by omega, by go_num, by rw [Hsu.out], hb⟩
                case measure => simp [intOf]; omega
              · rw [ht, if_pos rfl] at hsu
                have Hsu := Lib.hid hsu
                have q1 : IntKind.i64.wrap ((ge rs k).r * (ge rs k).c) = (ge rs k).r * (ge rs k).c := IntWalk.i64_in _ (by omega)
                have q2 : IntKind.i64.wrap (ssm rs ns l k + (ge rs k).r * (ge rs k).c) = ssm rs ns l k + (ge rs k).r * (ge rs k).c := IntWalk.i64_in _ (by omega)
                clear hsu ht
                go_wp2_with fail
                refine Mm.region_ext (by kernel_rfl) (by kernel_rfl) ?_; (repeat (first | go_big_quiet_step (fail) | quiet_step (fail))); refine wpQuiet_nil ?_
                intro w3 hb3
                have hb4 := bl_trans hb hb3
                clear q1 q2
                go_wp2_with fail
                go_roundw
                case rel => exact ⟨k + 1, by omega, by go_num, by rw [Hsu.out], hb4⟩
                case measure => simp [intOf]; omega
        · obtain rfl : k = rs.length := by omega
          go_wp2_with fail
          go_ret
          exact ⟨by rw [H.out]; rfl, hb⟩
  · have t : (chk rs ns 2 != 0) = true := by rw [bne_iff_ne]; exact hc
    have H := Lib.hid (shr_c (l := l) hc)
    clear hc
    generalize chk rs ns 2 = x at HCK t
    go_enter Try.func34, Try.ntmps34
    go_wp2_with fail
    refine HCK.out.mono ?_
    rintro e w1 ⟨rfl, hb1⟩
    go_wp2_with fail
    go_ret
    exact ⟨by rw [H.out]; rfl, hb1⟩
end Go.Proofs.Ytcidpgjeddogmaa.Pl
