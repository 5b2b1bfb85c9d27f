/- Walk: seating.Short, whole. -/
import Derived.Test.YtcidpgjeddogmaaVY
import Derived.WalkKit
import Derived.WalkSpells
import Derived.WalkLawsBesides
import Derived.Deep.QuietTactic
import Derived.BigQuiet
import Derived.Deep.Draws
import Derived.Deep.AppendLies
import Derived.Laws.OwnMore
import Derived.Laws.BytesArg
import Derived.Lib.Hide
import Derived.Deep.LoopGhost
namespace Go.Proofs.Ytcidpgjeddogmaa.Pl
open Go.RowKit
open Go.Proofs.Ytcidpgjeddogmaa.Mw
open Go.Proofs.Ytcidpgjeddogmaa.St
set_option linter.unusedVariables false
set_option linter.unusedSimpArgs false

theorem shr_c {rs : List Rm} {ns : List Nd} {l : List Int} (h : ¬ chk rs ns 2 = 0) : shr rs ns l = false := by unfold shr; rw [beq_eq_false_iff_ne.2 h]; rfl
theorem shr_i {rs : List Rm} {ns : List Nd} {l : List Int} (h : alln l.length (isB ns.length l) = false) : shr rs ns l = false := by unfold shr; rw [h]; simp
theorem shr_e {rs : List Rm} {ns : List Nd} {l : List Int} (h : chk rs ns 2 = 0) (h1 : alln l.length (isB ns.length l) = true) : shr rs ns l = decide (ssm rs ns l rs.length < l.length) := by unfold shr; rw [h, h1]; simp
theorem ssm_bd {rs : List Rm} {ns : List Nd} {l : List Int} (h : ∀ k, k < rs.length → rmB (ge rs k) = true) : ∀ k, k ≤ rs.length → 0 ≤ ssm rs ns l k ∧ ssm rs ns l k ≤ 64 * k
  | 0, _ => by simp [ssm]
  | k + 1, hk => by
    have ih := ssm_bd (ns := ns) (l := l) h k (by omega)
    obtain ⟨h1, h2, -⟩ := capR_bd (h k (by omega))
    unfold ssm
    split <;> omega
set_option maxHeartbeats 4000000 in
theorem short_any (rs : List Rm) (ns : List Nd) (l : List Int) (A B D : Option Addr) (cA cB cD : Nat) (w : World) (hl1 : rs.length ≤ maxLen) (hl2 : ns.length ≤ maxLen) (hl3 : l.length ≤ maxLen) (hA : RdRm w A rs) (hB : RdNd w B ns) (hD : RdI w .i64 D l) :
    Calls Try.prog 33 #[.slice A rs.length cA, .slice B ns.length cB, .slice D l.length cD] w fun e w' => e = .returned (.bool (shr rs ns l)) ∧ Below w.heap.size w w' := by
  have HCK : Hid (∀ W, Below w.heap.size w W → Calls Try.prog 18 #[.slice A rs.length cA, .slice B ns.length cB, .int .i64 2] W fun e w' => e = .returned (.int .i64 (chk rs ns 2)) ∧ Below W.heap.size W w') := fun W hW => check_any rs ns 2 A B cA cB W hl1 hl2 (hA.old hW) (hB.old hW)
  have HA := Lib.hid hA
  have HB := Lib.hid hB
  have HD := Lib.hid hD
  have HL3 := Lib.hid hl3
  clear hA hB hD
  unfold maxLen at hl1 hl2 hl3
  have hb0 : Below w.heap.size w (w.alloc (.cells #[.slice B ns.length cB] 27)) := by (repeat (first | with_reducible exact Below.refl _ _ | with_reducible refine bl_drewN ?_ _ | with_reducible refine Below.drew ?_ | with_reducible refine bl_alloc ?_ _ | with_reducible refine Below.alloc ?_ (by first | omega | (simp; done) | (simp; omega)) _ | with_reducible refine Below.setCell ?_ (by first | omega | (simp; done) | (simp; omega)) _ | with_reducible assumption))
  by_cases hc : chk rs ns 2 = 0
  · have hcl := chk_0_inv hc
    have hr8 : (rs.length : Int) ≤ 8 := by omega
    have hn60 : (ns.length : Int) ≤ 60 := by omega
    have hn60' : ns.length ≤ 60 := by omega
    have HC := Lib.hid hc
    have HR : Hid (∀ i, i < rs.length → rmB (ge rs i) = true) := hcl.2.2.2.1
    rw [hc] at HCK
    clear hc hcl
    have HIS : Hid (∀ W, Below w.heap.size w W → Calls Try.prog 47 #[.slice D l.length cD, .int .i64 (ns.length : Int)] W fun e w' => e = .returned (.bool (alln l.length (isB ns.length l))) ∧ W = w') := fun W hW => isset_any ns.length hn60' l D cD W HL3.out (HD.out.old hW)
    cases hi : alln l.length (isB ns.length l)
    · have H := Lib.hid (shr_i (rs := rs) hi)
      rw [hi] at HIS
      clear hi
      go_enter Try.func33, Try.ntmps33
      go_wp2_with fail
      refine (HCK.out _ (by (repeat (first | with_reducible exact Below.refl _ _ | with_reducible refine bl_drewN ?_ _ | with_reducible refine Below.drew ?_ | with_reducible refine bl_alloc ?_ _ | with_reducible refine Below.alloc ?_ (by first | omega | (simp; done) | (simp; omega)) _ | with_reducible refine Below.setCell ?_ (by first | omega | (simp; done) | (simp; omega)) _ | with_reducible assumption)))).mono ?_
      rintro e w1 ⟨rfl, hb1⟩
      have hc1 := bl_trans hb0 hb1
      have B1 : Bk w1 w.heap.size 27 #[.slice B ns.length cB] := Bk.old (by (repeat (first | ((with_reducible refine Bk.new' ?_); (first | rfl | (simp; done) | (simp; omega))) | with_reducible refine Bk.alloc ?_ _ | with_reducible refine Bk.drewN ?_ _ | with_reducible refine Bk.drew ?_ | with_reducible assumption))) hb1
      have b1 := bcells B1
      have l1 := B1.lt
      go_wp2_with fail
      refine (HIS.out _ hc1).mono ?_
      rintro e w2 ⟨rfl, rfl⟩
      go_wp2_with fail
      go_ret
      exact ⟨by rw [H.out]; rfl, hc1⟩
    · have H := Lib.hid (shr_e HC.out hi)
      have HIN : Hid (∀ k, k < l.length → 0 ≤ gi l k ∧ gi l k < ns.length) := fun k hk => isB_in (alln_at hi k hk)
      rw [hi] at HIS
      clear hi
      go_enter Try.func33, Try.ntmps33
      go_wp2_with fail
      refine (HCK.out _ (by (repeat (first | with_reducible exact Below.refl _ _ | with_reducible refine bl_drewN ?_ _ | with_reducible refine Below.drew ?_ | with_reducible refine bl_alloc ?_ _ | with_reducible refine Below.alloc ?_ (by first | omega | (simp; done) | (simp; omega)) _ | with_reducible refine Below.setCell ?_ (by first | omega | (simp; done) | (simp; omega)) _ | with_reducible assumption)))).mono ?_
      rintro e w1 ⟨rfl, hb1⟩
      have hc1 := bl_trans hb0 hb1
      have B1 : Bk w1 w.heap.size 27 #[.slice B ns.length cB] := Bk.old (by (repeat (first | ((with_reducible refine Bk.new' ?_); (first | rfl | (simp; done) | (simp; omega))) | with_reducible refine Bk.alloc ?_ _ | with_reducible refine Bk.drewN ?_ _ | with_reducible refine Bk.drew ?_ | with_reducible assumption))) hb1
      have b1 := bcells B1
      have l1 := B1.lt
      clear hb0 hb1
      go_wp2_with fail
      refine (HIS.out _ hc1).mono ?_
      rintro e w2 ⟨rfl, rfl⟩
      go_wp2_with fail
      clear b1 l1
      go_loopw [7, 23] (fun y x wr => ∃ k : Nat, k ≤ rs.length ∧ x = .int .i64 k ∧ y = .int .i64 (ssm rs ns l k) ∧ Bk wr w.heap.size 27 #[.slice B ns.length cB] ∧ Below w.heap.size w wr) (fun _ x _ => rs.length - (intOf x).toNat)
      case atStart => exact ⟨0, Nat.zero_le _, rfl, rfl, B1, hc1⟩
      case round =>
        clear B1 hc1
        obtain ⟨k, hk, rfl, rfl, hB1, hb⟩ := hrel
        have hbd := ssm_bd (ns := ns) (l := l) HR.out k hk
        by_cases hlt : k < rs.length
        · have hk' : (k : Int) < rs.length := by omega
          have hk0 : (0 : Int) ≤ k := by omega
          obtain ⟨b, off, rfl, hbl, c0, c1, c2⟩ := rm_at (HA.out.old hb) k hlt
          have hrm2 := (rmB_iff _).1 (HR.out k hlt)
          have y3 : 0 ≤ (ge rs k).r ∧ (ge rs k).r ≤ 100 := by omega
          have y4 : 0 ≤ (ge rs k).c ∧ (ge rs k).c ≤ 100 := by omega
          have HSQ := Lib.hid (seats_any (ge rs k) y3 y4)
          obtain ⟨z1, z2, -⟩ := capR_bd (HR.out k hlt)
          have hsu : ssm rs ns l (k + 1) = ssm rs ns l k + if anyR (ge rs k) ns l = true then (ge rs k).r * (ge rs k).c else 0 := rfl
          have hbW : Below w.heap.size w (wr.alloc (.cells #[.int .i64 (ge rs k).r, .int .i64 (ge rs k).c, .int .i64 (ge rs k).o] 35)) := by (repeat (first | with_reducible exact Below.refl _ _ | with_reducible refine bl_drewN ?_ _ | with_reducible refine Below.drew ?_ | with_reducible refine bl_alloc ?_ _ | with_reducible refine Below.alloc ?_ (by first | omega | (simp; done) | (simp; omega)) _ | with_reducible refine Below.setCell ?_ (by first | omega | (simp; done) | (simp; omega)) _ | with_reducible assumption))
          have hBW := hB1.alloc (.cells #[.int .i64 (ge rs k).r, .int .i64 (ge rs k).c, .int .i64 (ge rs k).o] 35)
          have hGW := Bk.new wr 35 #[.int .i64 (ge rs k).r, .int .i64 (ge rs k).c, .int .i64 (ge rs k).o]
          clear y3 y4 hrm2
          go_upto_region 7 with fail
          generalize (wr.alloc (.cells #[.int .i64 (ge rs k).r, .int .i64 (ge rs k).c, .int .i64 (ge rs k).o] 35)) = W at hbW hBW hGW ⊢
          clear c0 c1 c2 hB1 hb
          generalize wr.heap.size = G at hGW ⊢
          go_wp2_with fail
          refine (contains_any (ge rs k) ns l D B cD cB G w.heap.size W HL3.out (HD.out.old hbW) hGW hBW (HB.out.old hbW) HIN.out hn60').mono ?_
          rintro e w3 ⟨rfl, hb3⟩
          have hB3 := hBW.old hb3
          have hG3 := hGW.old hb3
          have hbb := bl_trans hbW hb3
          clear hbW hBW hGW hb3
          have c0 : w3.cell? ⟨G, 0, none⟩ = some (.int .i64 (ge rs k).r) := hG3.cell 0
          have c1 : w3.cell? ⟨G, 1, none⟩ = some (.int .i64 (ge rs k).c) := hG3.cell 1
          have c2 : w3.cell? ⟨G, 2, none⟩ = some (.int .i64 (ge rs k).o) := hG3.cell 2
          have f0 := hG3.lt
          generalize (ge rs k).r * (ge rs k).c = Q at HSQ z1 z2 hsu
          cases ha : anyR (ge rs k) ns l
          · rw [ha, if_neg (by simp), Int.add_zero] at hsu
            have Hsu := Lib.hid hsu
            clear hsu ha
            go_wp2_with fail
            go_roundw
            case rel => exact ⟨k + 1, by omega, by go_num, by rw [Hsu.out], hB3, hbb⟩
            case measure => simp [intOf]; omega
          · rw [ha, if_pos rfl] at hsu
            have Hsu := Lib.hid hsu
            clear hsu ha
            go_wp2_with fail
            refine (HSQ.out _).mono ?_
            rintro e w4 ⟨rfl, hb4⟩
            have hB4 := hB3.old hb4
            have hb5 := bl_trans hbb hb4
            clear hb4 hB3 hbb c0 c1 c2
            go_wp2_with fail
            go_roundw
            case rel => exact ⟨k + 1, by omega, by go_num, by rw [Hsu.out], hB4, hb5⟩
            case measure => simp [intOf]; omega
        · obtain rfl : k = rs.length := by omega
          go_wp2_with fail
          go_ret
          exact ⟨by rw [H.out]; rfl, hb⟩
  · have t : (chk rs ns 2 != 0) = true := by rw [bne_iff_ne]; exact hc
    have H := Lib.hid (shr_c (l := l) hc)
    clear hc
    generalize chk rs ns 2 = x at HCK t
    go_enter Try.func33, Try.ntmps33
    go_wp2_with fail
    refine (HCK.out _ (by (repeat (first | with_reducible exact Below.refl _ _ | with_reducible refine bl_drewN ?_ _ | with_reducible refine Below.drew ?_ | with_reducible refine bl_alloc ?_ _ | with_reducible refine Below.alloc ?_ (by first | omega | (simp; done) | (simp; omega)) _ | with_reducible refine Below.setCell ?_ (by first | omega | (simp; done) | (simp; omega)) _ | with_reducible assumption)))).mono ?_
    rintro e w1 ⟨rfl, hb1⟩
    have hc1 := bl_trans hb0 hb1
    go_wp2_with fail
    go_ret
    exact ⟨by rw [H.out]; rfl, hc1⟩
end Go.Proofs.Ytcidpgjeddogmaa.Pl
