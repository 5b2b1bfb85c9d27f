/- Walk: the example of the chapter. -/
import Derived.Test.YtcidpgjeddogmaaWB
import Derived.Test.YtcidpgjeddogmaaWC
import Derived.Test.YtcidpgjeddogmaaVX
import Derived.Test.YtcidpgjeddogmaaVZ
import Derived.WalkKit
import Derived.WalkSpells
import Derived.WalkLawsBesides
import Derived.Deep.QuietTactic
import Derived.BigQuiet
import Derived.Deep.Draws
import Derived.Deep.AppendLies
import Derived.Laws.OwnMore
import Derived.Laws.BytesArg
import Derived.Lib.Hide
import Derived.Deep.LoopGhost
namespace Go.Proofs.Ytcidpgjeddogmaa.Pl
open Go.RowKit
open Go.Proofs.Ytcidpgjeddogmaa.Mw
open Go.Proofs.Ytcidpgjeddogmaa.St
set_option linter.unusedVariables false
set_option linter.unusedSimpArgs false

theorem asl_I {rs : List Rm} {ns : List Nd} {v : Int} {q : List Int} (h : asg rs ns v q = (asl rs ns v q ns.length, 0)) : ∀ p, p ∈ asl rs ns v q ns.length → PcI p := fun p hp => by
  obtain ⟨hc, hl, h2, h3, h4, -⟩ := asg_inv h
  obtain ⟨i, hi, rfl⟩ := List.mem_iff_getElem.1 hp
  rw [asl_len] at hi
  have e := ge_lt (asl rs ns v q ns.length) i (by rw [asl_len]; exact hi)
  rw [List.getElem?_eq_getElem (by rw [asl_len]; exact hi), asl_at hi] at e
  rw [Option.some.inj e]
  have hcl := chk_0_inv hc
  have hb := (ins_iff _ _ _).1 (h2 i (by omega))
  have hr := (rmB_iff _).1 (hcl.2.2.2.1 (gi q i).toNat (by omega))
  have hn := cnt_le q (gi q i) i
  have a := Int.ediv_nonneg (show 0 ≤ (cnt q (gi q i) i : Int) by omega) (show 0 ≤ (rmI rs (gi q i)).c by unfold rmI; omega)
  have b := Int.ediv_le_self (a := (cnt q (gi q i) i : Int)) (rmI rs (gi q i)).c (by omega)
  have c := Int.emod_nonneg (cnt q (gi q i) i : Int) (show (rmI rs (gi q i)).c ≠ 0 by unfold rmI; omega)
  have d := Int.emod_lt_of_pos (cnt q (gi q i) i : Int) (show 0 < (rmI rs (gi q i)).c by unfold rmI; omega)
  have e : (rmI rs (gi q i)).c ≤ 8 := by unfold rmI; omega
  unfold PcI I64 asp
  simp only
  omega
set_option maxHeartbeats 4000000 in
theorem awake_any (w : World) : Calls Try.prog 20 #[] w fun e w' => e = .returned (.bool true) ∧ Below w.heap.size w w' := by
  have hR : Bk (w.alloc (.cells #[.int .i64 1, .int .i64 2, .int .i64 0, .int .i64 1, .int .i64 1, .int .i64 2] 35)) w.heap.size 35 #[.int .i64 1, .int .i64 2, .int .i64 0, .int .i64 1, .int .i64 1, .int .i64 2] := Bk.new _ _ _
  have hN : Bk ((w.alloc (.cells #[.int .i64 1, .int .i64 2, .int .i64 0, .int .i64 1, .int .i64 1, .int .i64 2] 35)).alloc (.cells #[.int .i64 1, .int .i64 2, .int .i64 2, .int .i64 0, .int .i64 3, .int .i64 2] 37)) (w.heap.size + 1) 37 #[.int .i64 1, .int .i64 2, .int .i64 2, .int .i64 0, .int .i64 3, .int .i64 2] := Bk.new' (by simp)
  have hR2 := hR.alloc (.cells #[.int .i64 1, .int .i64 2, .int .i64 2, .int .i64 0, .int .i64 3, .int .i64 2] 37)
  have hb : Below w.heap.size w ((w.alloc (.cells #[.int .i64 1, .int .i64 2, .int .i64 0, .int .i64 1, .int .i64 1, .int .i64 2] 35)).alloc (.cells #[.int .i64 1, .int .i64 2, .int .i64 2, .int .i64 0, .int .i64 3, .int .i64 2] 37)) := by (repeat (first | with_reducible exact Below.refl _ _ | with_reducible refine bl_drewN ?_ _ | with_reducible refine Below.drew ?_ | with_reducible refine bl_alloc ?_ _ | with_reducible refine Below.alloc ?_ (by first | omega | (simp; done) | (simp; omega)) _ | with_reducible refine Below.setCell ?_ (by first | omega | (simp; done) | (simp; omega)) _ | with_reducible assumption))
  have HR : Hid (RdRm ((w.alloc (.cells #[.int .i64 1, .int .i64 2, .int .i64 0, .int .i64 1, .int .i64 1, .int .i64 2] 35)).alloc (.cells #[.int .i64 1, .int .i64 2, .int .i64 2, .int .i64 0, .int .i64 3, .int .i64 2] 37)) (some ⟨w.heap.size, 0, none⟩) rs0) := RdR.bk (fun _ => rfl) hR2 rfl
  have HN : Hid (RdNd ((w.alloc (.cells #[.int .i64 1, .int .i64 2, .int .i64 0, .int .i64 1, .int .i64 1, .int .i64 2] 35)).alloc (.cells #[.int .i64 1, .int .i64 2, .int .i64 2, .int .i64 0, .int .i64 3, .int .i64 2] 37)) (some ⟨w.heap.size + 1, 0, none⟩) ns0) := RdR.bk (fun _ => rfl) hN rfl
  have HM : Hid (RdNd ((w.alloc (.cells #[.int .i64 1, .int .i64 2, .int .i64 0, .int .i64 1, .int .i64 1, .int .i64 2] 35)).alloc (.cells #[.int .i64 1, .int .i64 2, .int .i64 2, .int .i64 0, .int .i64 3, .int .i64 2] 37)) (some ⟨w.heap.size + 1, 0, none⟩) ns1) := fun i hi => HN.out i (by have h2 : ns1.length = 2 := rfl; have h3 : ns0.length = 3 := rfl; omega) |> fun h => by
    have e : ge ns0 i = ge ns1 i := by
      have hi : i < 2 := hi
      match i, hi with
      | 0, _ => rfl
      | 1, _ => rfl
    rw [← e]; exact h
  clear hR hN hR2
  go_enter Try.func20, Try.ntmps20
  go_upto_region 3 with fail
  generalize ((w.alloc (.cells #[.int .i64 1, .int .i64 2, .int .i64 0, .int .i64 1, .int .i64 1, .int .i64 2] 35)).alloc (.cells #[.int .i64 1, .int .i64 2, .int .i64 2, .int .i64 0, .int .i64 3, .int .i64 2] 37)) = W at hb HR HN HM ⊢
  go_wp2_with fail
  refine (place_any rs0 ns0 2 (some ⟨w.heap.size, 0, none⟩) (some ⟨w.heap.size + 1, 0, none⟩) 2 3 W (by decide) (by decide) HR.out HN.out).mono ?_
  rintro e w1 hp
  rcases hp with ⟨hc, _, _⟩ | ⟨hc, l, A, c, rfl, hr, hs, hl, hb1⟩ | ⟨hc, q, hq, _, A, c, _, _, _⟩
  · exact absurd chk_ex0 hc
  · have hb2 := bl_trans hb hb1
    have HR1 := Lib.hid (HR.out.old hb1)
    have HN1 := Lib.hid (HN.out.old hb1)
    have HM1 := Lib.hid (HM.out.old hb1)
    have Hr := Lib.hid hr
    have Hs := Lib.hid hs
    clear HR HN HM hb hb1 hr hs
    go_wp2_with fail
    refine (place_any rs0 ns1 2 (some ⟨w.heap.size, 0, none⟩) (some ⟨w.heap.size + 1, 0, none⟩) 2 3 w1 (by decide) (by decide) HR1.out HM1.out).mono ?_
    rintro e w2 hp
    rcases hp with ⟨hc, _, _⟩ | ⟨_, l2, _, _, _, _, hs2, _, _⟩ | ⟨_, q, hq, hql, A2, c2, rfl, hr2, hb3⟩
    · exact absurd chk_ex1 hc
    · exact absurd hs2 no_ex1
    · have hb4 := bl_trans hb2 hb3
      have h2 : ns1.length = 2 := rfl
      have hsh := short_any rs0 ns0 l (some ⟨w.heap.size, 0, none⟩) (some ⟨w.heap.size + 1, 0, none⟩) A 2 3 c w2 (by decide) (by decide) (by unfold maxLen; omega) (HR1.out.old hb3) (HN1.out.old hb3) (Hr.out.old hb3)
      rw [Hs.out] at hsh
      have Hsh := Lib.hid hsh
      have HRI : Hid (∀ W, Below w2.heap.size w2 W → Calls Try.prog 30 #[.slice (some ⟨w.heap.size, 0, none⟩) 2 2, .slice (some ⟨w.heap.size + 1, 0, none⟩) 2 3, .int .i64 2, .slice A2 2 c2] W fun e w' => e = .returned (.bool true) ∧ Below W.heap.size W w') := fun W hW => by
        have h := right_any rs0 ns1 2 (asl rs0 ns1 2 q ns1.length) (some ⟨w.heap.size, 0, none⟩) (some ⟨w.heap.size + 1, 0, none⟩) A2 2 3 c2 W (by decide) (by decide) (by rw [asl_len]; decide) ((HR1.out.old hb3).old hW) ((HM1.out.old hb3).old hW) (hr2.old hW) (asl_I hq)
        rw [asg_right hq, asl_len] at h
        exact h
      clear hsh hb3 hb2 HR1 HN1 HM1 Hr hr2 hq hql
      go_wp2_with fail
      refine Hsh.out.mono ?_
      rintro e w3 ⟨rfl, hb5⟩
      have hb6 := bl_trans hb4 hb5
      go_wp2_with fail
      refine (HRI.out _ hb5).mono ?_
      rintro e w4 ⟨rfl, hb7⟩
      have hb8 := bl_trans hb6 hb7
      go_wp2_with fail
      go_ret
      exact ⟨rfl, hb8⟩
  · exact absurd hq no_ex0
end Go.Proofs.Ytcidpgjeddogmaa.Pl
