/- Walk: ref15.Canonical at places that Assign gives. -/
import Derived.Test.YtcidpgjeddogmaaWO
import Derived.Test.YtcidpgjeddogmaaWP
import Derived.Test.YtcidpgjeddogmaaWC
import Derived.WalkKit
import Derived.WalkSpells
import Derived.WalkLawsBesides
import Derived.Deep.QuietTactic
import Derived.BigQuiet
import Derived.Deep.Draws
import Derived.Deep.AppendLies
import Derived.Laws.OwnMore
import Derived.Laws.BytesArg
import Derived.Lib.Hide
import Derived.Deep.LoopGhost
namespace Go.Proofs.Ytcidpgjeddogmaa.Pl
open Go.RowKit
open Go.Proofs.Ytcidpgjeddogmaa.Mw
open Go.Proofs.Ytcidpgjeddogmaa.St
set_option linter.unusedVariables false
set_option linter.unusedSimpArgs false

theorem take_gi {q : List Int} {k : Nat} (h : k < q.length) : q.take (k + 1) = q.take k ++ [gi q k] := by
  rw [List.take_add_one, List.getElem?_eq_getElem h]
  unfold gi
  rw [List.getD_eq_getElem?_getD, List.getElem?_eq_getElem h]
  rfl
set_option maxHeartbeats 4000000 in
set_option maxRecDepth 100000 in
theorem rcanon_ok (rs : List Rm) (ns : List Nd) (v : Int) (q : List Int) (A B D : Option Addr) (cA cB cD : Nat) (w : World) (hl1 : rs.length ≤ maxLen) (hl2 : ns.length ≤ maxLen) (hA : RdRm w A rs) (hB : RdNd w B ns) (hq : asg rs ns v q = (asl rs ns v q ns.length, 0)) (hql : q.length = ns.length) (hD : RdR 5 pcl w D (asl rs ns v q ns.length)) :
    Calls Try.prog 37 #[.slice A rs.length cA, .slice B ns.length cB, .int .i64 v, .slice D ns.length cD] w fun e w' => e = .returned (.bool true) ∧ Below w.heap.size w w' := by
  have hcl := chk_0_inv (asg_inv hq).1
  have hn60 : ns.length ≤ 60 := hcl.2.1
  have PA : Hid (∀ V, Below w.heap.size w V → ∀ E ce, RdI V .i64 E q → Calls Try.prog 27 #[.slice A rs.length cA, .slice B ns.length cB, .int .i64 v, .slice E q.length ce] V (AsgP (asl rs ns v q ns.length, 0) V)) := fun V hV E ce hE => by
    have h := rassign_any rs ns v q A B E cA cB ce V hl1 hl2 (by rw [hql]; exact hl2) (hA.old hV) (hB.old hV) hE
    rwa [hq] at h
  have hm : ∀ i, i < ns.length → (ge (asl rs ns v q ns.length) i).m = gi q i := fun i hi => by rw [asl_at hi]; rfl
  have hlen := asl_len (rs := rs) (ns := ns) (v := v) (q := q) ns.length
  generalize asl rs ns v q ns.length = L at PA hm hlen hD
  have HM := Lib.hid hm
  have HL := Lib.hid hlen
  have HD := Lib.hid hD
  have HQ := Lib.hid hql
  have tL : ((L.length : Int) != (ns.length : Int)) = false := by simp [hlen]
  have hL60 : L.length ≤ 60 := by omega
  clear hcl hA hB hq hql hD hm hlen hl1 hl2
  go_enter Try.func37, Try.ntmps37
  go_wp2_with fail
  go_loopw [9, 10] (fun y i wr => ∃ k : Nat, i = .int .i64 k ∧ k ≤ ns.length ∧ wr.ownsRow w.heap.size 3 1 y (q.take k).length ((q.take k).map (Value.int .i64)) ∧ Below w.heap.size w wr) (fun _ i _ => ns.length - (intOf i).toNat)
  case atStart => exact ⟨0, rfl, Nat.zero_le _, World.ownsRow_nil _ _ _ _, Below.refl _ _⟩
  case round =>
    obtain ⟨k, rfl, hk, ho, hb⟩ := hrel
    by_cases hkn : k < ns.length
    · have hk' : (k : Int) < ns.length := by omega
      have hk0 : (0 : Int) ≤ k := by omega
      have hkL : k < L.length := by rw [HL.out]; exact hkn
      have hkq : k < q.length := by rw [HQ.out]; exact hkn
      obtain ⟨b, off, rfl, hbl, p0, p1, p2, p3, p4⟩ := pc_at (HD.out.old hb) k hkL
      rw [HM.out k hkn] at p1
      have ho4 := own_old ho ((Below.refl _ wr).alloc (Nat.le_refl _) (.cells #[.int .i64 (gi q k)] 3))
      have hs : w.heap.size ≤ (wr.alloc (.cells #[.int .i64 (gi q k)] 3)).heap.size := by have := hb.size; simp; omega
      obtain ⟨v2, w7, hrun, hown2, hg7⟩ := app_int1 (x := gi q k) (g := wr.heap.size) ho4 (Bk.new _ _ _) (by simp; omega) hs
      rw [← take_gi hkq] at hown2
      have hb7 : Below w.heap.size w w7 := (bl_alloc hb (.cells #[.int .i64 (gi q k)] 3)).grown hg7 hs fun u hu => (ho.lt u hu).1
      clear ho ho4 hs hg7 hb p0 p2 p3 p4 hkL hkq
      go_wp2_with (at_builtin; refine wpList_append_run rfl (.tmp 20) (.tmp 27) 22 rfl _ (.slice (some ⟨wr.heap.size, 0, none⟩) 1 1) rfl rfl v2 w7 (by exact hrun) ?_)
      go_roundw
      case rel => exact ⟨k + 1, by go_num, by omega, hown2, hb7⟩
      case measure => simp [intOf]; omega
    · obtain rfl : k = ns.length := by omega
      rw [show q.take ns.length = q by rw [← HQ.out, List.take_length]] at ho
      obtain ⟨A5, c5, hv5, hr5, -⟩ := own_ints ho
      have HV := Lib.hid hv5
      clear hv5 ho hk hkn
      rw [HV.out]
      have hP := PA.out _ hb A5 c5 hr5
      have HP := Lib.hid hP
      clear hP hr5
      go_wp2_with fail
      refine HP.out.mono ?_
      rintro e w5 ⟨E, ce, rfl, hr, -, -, hb5⟩
      simp only at hr
      have hb6 := bl_trans hb hb5
      have HE := Lib.hid hr
      clear hb hb5 hr
      go_wp2_with fail
      go_loopw [13] (fun x wr => ∃ k : Nat, k ≤ L.length ∧ x = .int .i64 k ∧ Below w5.heap.size w5 wr) (fun x _ => L.length - (intOf x).toNat)
      case atStart => exact ⟨0, Nat.zero_le _, rfl, Below.refl _ _⟩
      case round =>
        obtain ⟨k, hk, rfl, hb⟩ := hrel
        by_cases hlt : k < L.length
        · have hk' : (k : Int) < L.length := by omega
          have hk0 : (0 : Int) ≤ k := by omega
          have hkn' : (k : Int) < ns.length := by have := HL.out; omega
          obtain ⟨b, off, rfl, hbl, p0, p1, p2, p3, p4⟩ := pc_at (HE.out.old hb) k hlt
          obtain ⟨b', off', rfl, hbl', q0, q1, q2, q3, q4⟩ := pc_at (HD.out.old (bl_trans hb6 hb)) k hlt
          go_wp2_with fail
          refine Mm.region_ext (by kernel_rfl) (by kernel_rfl) ?_; (repeat (first | go_big_quiet_step (fail) | quiet_step (fail))); refine wpQuiet_nil ?_
          intro w3 hb3
          have hb4 := bl_trans hb hb3
          go_wp2_with fail
          go_roundw
          case rel => exact ⟨k + 1, by omega, by go_num, hb4⟩
          case measure => simp [intOf]; omega
        · obtain rfl : k = L.length := by omega
          have hb9 := bl_trans hb6 hb
          go_wp2_with fail
          go_ret
          exact ⟨rfl, hb9⟩
end Go.Proofs.Ytcidpgjeddogmaa.Pl
