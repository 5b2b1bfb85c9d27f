/- Walk: ref15.Right. -/
import Derived.Test.YtcidpgjeddogmaaWT
import Derived.WalkKit
import Derived.WalkSpells
import Derived.WalkLawsBesides
import Derived.Deep.QuietTactic
import Derived.BigQuiet
import Derived.Deep.Draws
import Derived.Deep.AppendLies
import Derived.Laws.OwnMore
import Derived.Laws.BytesArg
import Derived.Lib.Hide
import Derived.Deep.LoopGhost
namespace Go.Proofs.Ytcidpgjeddogmaa.Pl
open Go.RowKit
open Go.Proofs.Ytcidpgjeddogmaa.Mw
open Go.Proofs.Ytcidpgjeddogmaa.St
set_option linter.unusedVariables false
set_option linter.unusedSimpArgs false

section
variable {rs : List Rm} {ns : List Nd} {v : Int} {l : List Pc} {i : Nat}
theorem rx_2 (h : ins (ge l i).m 0 ((rs.length : Int) - 1) = false) : riB rs ns v l i = false := by unfold riB; rw [h]; simp
theorem rx_4 (h : ins (ge l i).r 0 ((ge rs (ge l i).m.toNat).r - 1) = false) : riB rs ns v l i = false := by unfold riB rmI; rw [h]; simp
theorem rx_5 (h : ins (ge l i).l 0 ((ge rs (ge l i).m.toNat).c - 1) = false) : riB rs ns v l i = false := by unfold riB rmI; rw [h]; simp
theorem rx_y (h1 : (ge l i).c = (ge ns i).c) (h2 : ins (ge l i).m 0 ((rs.length : Int) - 1) = true) (h3 : sut (ge rs (ge l i).m.toNat) (ge ns i) = true) (h4 : ins (ge l i).r 0 ((ge rs (ge l i).m.toNat).r - 1) = true) (h5 : ins (ge l i).l 0 ((ge rs (ge l i).m.toNat).c - 1) = true) (h6 : (ge l i).v = var (ge l i).r (ge l i).l v) : riB rs ns v l i = true := by
  unfold riB rmI; rw [beq_iff_eq.2 h1, beq_iff_eq.2 h6, h2, h3, h4, h5]; rfl
theorem ne_no {k j : Nat} (hj : j < k) (h : seq (ge l j) (ge l k) = true) : neB l k = false := by
  unfold neB; exact alln_false (f := fun j => !(seq (ge l j) (ge l k))) j hj (by rw [h]; rfl)
end
set_option maxHeartbeats 16000000 in
set_option maxRecDepth 100000 in
theorem rright_any (rs : List Rm) (ns : List Nd) (v : Int) (l : List Pc) (A B D : Option Addr) (cA cB cD : Nat) (w : World) (hl1 : rs.length ≤ maxLen) (hl2 : ns.length ≤ maxLen) (hl3 : l.length ≤ maxLen) (hA : RdRm w A rs) (hB : RdNd w B ns) (hD : RdR 5 pcl w D l) :
    Calls Try.prog 31 #[.slice A rs.length cA, .slice B ns.length cB, .int .i64 v, .slice D l.length cD] w fun e w' => e = .returned (.bool (rgt rs ns v l)) ∧ Below w.heap.size w w' := by
  have HCK := Lib.hid (rcheck_any rs ns v A B cA cB w hl1 hl2 hA hB)
  have HA := Lib.hid hA
  have HB := Lib.hid hB
  have HD := Lib.hid hD
  clear hA hB hD
  unfold maxLen at hl1 hl2 hl3
  by_cases hc : chk rs ns v = 0
  · have hcl := chk_0_inv hc
    have hr8 : (rs.length : Int) ≤ 8 := by omega
    have hn60 : (ns.length : Int) ≤ 60 := by omega
    have HC := Lib.hid hc
    have HR : Hid (∀ i, i < rs.length → rmB (ge rs i) = true) := hcl.2.2.2.1
    have hwl : IntKind.i64.wrap ((rs.length : Int) - 1) = (rs.length : Int) - 1 := IntWalk.i64_in _ (by omega)
    rw [hc] at HCK
    clear hc hcl
    by_cases hlen : l.length = ns.length
    · have HL := Lib.hid hlen
      have t1 : (((l.length : Int)) != (ns.length : Int)) = false := by simp [hlen]
      have hq60 : (l.length : Int) ≤ 60 := by omega
      clear hlen
      go_enter Try.func31, Try.ntmps31
      go_wp2_with fail
      refine HCK.out.mono ?_
      rintro e w1 ⟨rfl, hb1⟩
      clear HCK
      go_wp2_with fail
      go_loopw [9] (fun x wr => ∃ k : Nat, k ≤ l.length ∧ x = .int .i64 k ∧ Hid (∀ j, j < k → riB rs ns v l j = true ∧ neB l j = true) ∧ Below w.heap.size w wr) (fun x _ => l.length - (intOf x).toNat)
      case atStart => exact ⟨0, Nat.zero_le _, rfl, fun j hj => absurd hj (by omega), hb1⟩
      case round =>
        clear hb1
        obtain ⟨k, hk, rfl, hok, hb⟩ := hrel
        by_cases hlt : k < l.length
        · have hk' : (k : Int) < l.length := by omega
          have hk0 : (0 : Int) ≤ k := by omega
          have hkn : k < ns.length := by have := HL.out; omega
          have hkn' : (k : Int) < ns.length := by omega
          obtain ⟨b, off, rfl, hbl, p0, p1, p2, p3, p4⟩ := pc_at (HD.out.old hb) k hlt
          have hbW : Below w.heap.size w (wr.alloc (.cells (pca (ge l k)) 52)) := by (repeat (first | with_reducible exact Below.refl _ _ | with_reducible refine bl_drewN ?_ _ | with_reducible refine Below.drew ?_ | with_reducible refine bl_alloc ?_ _ | with_reducible refine Below.alloc ?_ (by first | omega | (simp; done) | (simp; omega)) _ | with_reducible refine Below.setCell ?_ (by first | omega | (simp; done) | (simp; omega)) _ | with_reducible assumption))
          have hPW : Bk (wr.alloc (.cells (pca (ge l k)) 52)) wr.heap.size 52 (pca (ge l k)) := Bk.new _ _ _
          go_upto_region 7 with fail
          generalize (wr.alloc (.cells (pca (ge l k)) 52)) = W at hbW hPW ⊢
          clear p0 p1 p2 p3 p4 hb hbl
          generalize wr.heap.size = gp at hPW ⊢
          have p0 : W.cell? ⟨gp, 0, none⟩ = some (.int .i64 (ge l k).c) := hPW.cell 0
          have p1 : W.cell? ⟨gp, 1, none⟩ = some (.int .i64 (ge l k).m) := hPW.cell 1
          have j0 := hPW.lt
          obtain ⟨nb, no, rfl, hnl, d0, d1⟩ := nd_at (HB.out.old hbW) k hkn
          by_cases h1 : (ge l k).c = (ge ns k).c
          · have t2 : ((ge l k).c != (ge ns k).c) = false := by rw [h1]; simp
            have H1 := Lib.hid h1
            clear h1
            cases f2 : ins (ge l k).m 0 ((rs.length : Int) - 1)
            · have H : Hid (rgt rs ns v l = false) := rgt_r k hlt (rx_2 f2)
              refine Mm.region_ext (by kernel_rfl) (by kernel_rfl) ?_; (repeat (first | go_big_quiet_step ((go_at_call 45; exact Mm.calls_same (inside_any _ _ _ _))) | quiet_step ((go_at_call 45; exact Mm.calls_same (inside_any _ _ _ _))))); refine wpQuiet_nil ?_
              intro w3 hb3
              go_wp2_with fail
              go_ret
              exact ⟨by rw [H.out]; rfl, bl_trans hbW hb3⟩
            · have fm := (ins_iff _ _ _).1 f2
              have hm0 : 0 ≤ (ge l k).m := fm.1
              have hm1 : (ge l k).m < rs.length := by omega
              have hmn : (ge l k).m.toNat < rs.length := by omega
              have hrm := (rmB_iff _).1 (HR.out _ hmn)
              have hwr : IntKind.i64.wrap ((ge rs (ge l k).m.toNat).r - 1) = (ge rs (ge l k).m.toNat).r - 1 := IntWalk.i64_in _ (by omega)
              have hwc : IntKind.i64.wrap ((ge rs (ge l k).m.toNat).c - 1) = (ge rs (ge l k).m.toNat).c - 1 := IntWalk.i64_in _ (by omega)
              have F2 := Lib.hid f2
              clear fm hrm
              refine Mm.region_ext (by kernel_rfl) (by kernel_rfl) ?_; (repeat (first | go_big_quiet_step ((go_at_call 45; exact Mm.calls_same (inside_any _ _ _ _))) | quiet_step ((go_at_call 45; exact Mm.calls_same (inside_any _ _ _ _))))); refine wpQuiet_nil ?_
              intro w3 hb3
              have hb4 := bl_trans hbW hb3
              have hP4 := hPW.old hb3
              clear hPW hbW hb3 p0 p1 j0 hnl d0 d1 f2
              obtain ⟨rb, ro, rfl, hrl, c0, c1, c2⟩ := rm_at (HA.out.old hb4) (ge l k).m.toNat hmn
              have p1 : w3.cell? ⟨gp, 1, none⟩ = some (.int .i64 (ge l k).m) := hP4.cell 1
              have j0 := hP4.lt
              have hbV : Below w.heap.size w (w3.alloc (.cells #[.int .i64 (ge rs (ge l k).m.toNat).r, .int .i64 (ge rs (ge l k).m.toNat).c, .int .i64 (ge rs (ge l k).m.toNat).o] 35)) := by (repeat (first | with_reducible exact Below.refl _ _ | with_reducible refine bl_drewN ?_ _ | with_reducible refine Below.drew ?_ | with_reducible refine bl_alloc ?_ _ | with_reducible refine Below.alloc ?_ (by first | omega | (simp; done) | (simp; omega)) _ | with_reducible refine Below.setCell ?_ (by first | omega | (simp; done) | (simp; omega)) _ | with_reducible assumption))
              have hPV := hP4.alloc (.cells #[.int .i64 (ge rs (ge l k).m.toNat).r, .int .i64 (ge rs (ge l k).m.toNat).c, .int .i64 (ge rs (ge l k).m.toNat).o] 35)
              have hRV := Bk.new w3 35 #[.int .i64 (ge rs (ge l k).m.toNat).r, .int .i64 (ge rs (ge l k).m.toNat).c, .int .i64 (ge rs (ge l k).m.toNat).o]
              go_upto_region 10 with fail
              generalize (w3.alloc (.cells #[.int .i64 (ge rs (ge l k).m.toNat).r, .int .i64 (ge rs (ge l k).m.toNat).c, .int .i64 (ge rs (ge l k).m.toNat).o] 35)) = V at hbV hPV hRV ⊢
              generalize w3.heap.size = gr at hRV ⊢
              clear c0 c1 c2 p1 j0 hrl hP4 hb4
              have p1 : V.cell? ⟨gp, 1, none⟩ = some (.int .i64 (ge l k).m) := hPV.cell 1
              have p2 : V.cell? ⟨gp, 2, none⟩ = some (.int .i64 (ge l k).r) := hPV.cell 2
              have p3 : V.cell? ⟨gp, 3, none⟩ = some (.int .i64 (ge l k).l) := hPV.cell 3
              have p4 : V.cell? ⟨gp, 4, none⟩ = some (.int .i64 (ge l k).v) := hPV.cell 4
              have r0 : V.cell? ⟨gr, 0, none⟩ = some (.int .i64 (ge rs (ge l k).m.toNat).r) := hRV.cell 0
              have r1 : V.cell? ⟨gr, 1, none⟩ = some (.int .i64 (ge rs (ge l k).m.toNat).c) := hRV.cell 1
              have r2 : V.cell? ⟨gr, 2, none⟩ = some (.int .i64 (ge rs (ge l k).m.toNat).o) := hRV.cell 2
              have j1 := hPV.lt
              have j2 := hRV.lt
              obtain ⟨_, _, e0, hnl, d0, d1⟩ := nd_at (HB.out.old hbV) k hkn
              cases e0
              cases f4 : ins (ge l k).r 0 ((ge rs (ge l k).m.toNat).r - 1)
              · have H : Hid (rgt rs ns v l = false) := rgt_r k hlt (rx_4 f4)
                refine Mm.region_ext (by kernel_rfl) (by kernel_rfl) ?_; (repeat (first | go_big_quiet_step ((first | (go_at_call 45; exact Mm.calls_same (inside_any _ _ _ _)) | (go_at_call 24; exact Mm.calls_ext (rsuits_any (ge rs (ge l k).m.toNat) (ge ns k) _)) | (go_at_call 22; exact Mm.calls_same (rvariant_any _ _ _ _)))) | quiet_step ((first | (go_at_call 45; exact Mm.calls_same (inside_any _ _ _ _)) | (go_at_call 24; exact Mm.calls_ext (rsuits_any (ge rs (ge l k).m.toNat) (ge ns k) _)) | (go_at_call 22; exact Mm.calls_same (rvariant_any _ _ _ _)))))); refine wpQuiet_nil ?_
                intro w3 hb3
                go_wp2_with fail
                go_ret
                exact ⟨by rw [H.out]; rfl, bl_trans hbV hb3⟩
              cases f5 : ins (ge l k).l 0 ((ge rs (ge l k).m.toNat).c - 1)
              · have H : Hid (rgt rs ns v l = false) := rgt_r k hlt (rx_5 f5)
                refine Mm.region_ext (by kernel_rfl) (by kernel_rfl) ?_; (repeat (first | go_big_quiet_step ((first | (go_at_call 45; exact Mm.calls_same (inside_any _ _ _ _)) | (go_at_call 24; exact Mm.calls_ext (rsuits_any (ge rs (ge l k).m.toNat) (ge ns k) _)) | (go_at_call 22; exact Mm.calls_same (rvariant_any _ _ _ _)))) | quiet_step ((first | (go_at_call 45; exact Mm.calls_same (inside_any _ _ _ _)) | (go_at_call 24; exact Mm.calls_ext (rsuits_any (ge rs (ge l k).m.toNat) (ge ns k) _)) | (go_at_call 22; exact Mm.calls_same (rvariant_any _ _ _ _)))))); refine wpQuiet_nil ?_
                intro w3 hb3
                go_wp2_with fail
                go_ret
                exact ⟨by rw [H.out]; rfl, bl_trans hbV hb3⟩
              cases f3 : sut (ge rs (ge l k).m.toNat) (ge ns k)
              · have H : Hid (rgt rs ns v l = false) := rgt_r k hlt (ri_3 f3)
                refine Mm.region_ext (by kernel_rfl) (by kernel_rfl) ?_; (repeat (first | go_big_quiet_step ((first | (go_at_call 45; exact Mm.calls_same (inside_any _ _ _ _)) | (go_at_call 24; exact Mm.calls_ext (rsuits_any (ge rs (ge l k).m.toNat) (ge ns k) _)) | (go_at_call 22; exact Mm.calls_same (rvariant_any _ _ _ _)))) | quiet_step ((first | (go_at_call 45; exact Mm.calls_same (inside_any _ _ _ _)) | (go_at_call 24; exact Mm.calls_ext (rsuits_any (ge rs (ge l k).m.toNat) (ge ns k) _)) | (go_at_call 22; exact Mm.calls_same (rvariant_any _ _ _ _)))))); refine wpQuiet_nil ?_
                intro w3 hb3
                go_wp2_with fail
                go_ret
                exact ⟨by rw [H.out]; rfl, bl_trans hbV hb3⟩
              by_cases h9 : (ge l k).v = var (ge l k).r (ge l k).l v
              rotate_left
              · have H : Hid (rgt rs ns v l = false) := rgt_r k hlt (ri_6 h9)
                have t9 : ((ge l k).v != var (ge l k).r (ge l k).l v) = true := by rw [bne_iff_ne]; exact h9
                clear h9
                refine Mm.region_ext (by kernel_rfl) (by kernel_rfl) ?_; (repeat (first | go_big_quiet_step ((first | (go_at_call 45; exact Mm.calls_same (inside_any _ _ _ _)) | (go_at_call 24; exact Mm.calls_ext (rsuits_any (ge rs (ge l k).m.toNat) (ge ns k) _)) | (go_at_call 22; exact Mm.calls_same (rvariant_any _ _ _ _)))) | quiet_step ((first | (go_at_call 45; exact Mm.calls_same (inside_any _ _ _ _)) | (go_at_call 24; exact Mm.calls_ext (rsuits_any (ge rs (ge l k).m.toNat) (ge ns k) _)) | (go_at_call 22; exact Mm.calls_same (rvariant_any _ _ _ _)))))); refine wpQuiet_nil ?_
                intro w3 hb3
                go_wp2_with fail
                go_ret
                exact ⟨by rw [H.out]; rfl, bl_trans hbV hb3⟩
              have HRI := Lib.hid (rx_y (v := v) H1.out F2.out f3 f4 f5 h9)
              have t9 : ((ge l k).v != var (ge l k).r (ge l k).l v) = false := by rw [← h9]; simp
              clear h9
              refine Mm.region_ext (by kernel_rfl) (by kernel_rfl) ?_; (repeat (first | go_big_quiet_step ((first | (go_at_call 45; exact Mm.calls_same (inside_any _ _ _ _)) | (go_at_call 24; exact Mm.calls_ext (rsuits_any (ge rs (ge l k).m.toNat) (ge ns k) _)) | (go_at_call 22; exact Mm.calls_same (rvariant_any _ _ _ _)))) | quiet_step ((first | (go_at_call 45; exact Mm.calls_same (inside_any _ _ _ _)) | (go_at_call 24; exact Mm.calls_ext (rsuits_any (ge rs (ge l k).m.toNat) (ge ns k) _)) | (go_at_call 22; exact Mm.calls_same (rvariant_any _ _ _ _)))))); refine wpQuiet_nil ?_
              intro w5 hb5
              have hb6 := bl_trans hbV hb5
              have hP6 := hPV.old hb5
              clear hPV hRV hbV hb5 p1 p2 p3 p4 r0 r1 r2 j1 j2 hnl d0 d1 t2 t9 f3 f4 f5 hwr hwc hm0 hm1 hmn
              go_wp2_with fail
              go_loopw [12] (fun x wr => ∃ j : Nat, j ≤ k ∧ x = .int .i64 j ∧ Hid (∀ i, i < j → seq (ge l i) (ge l k) = false) ∧ Bk wr gp 52 (pca (ge l k)) ∧ Below w.heap.size w wr) (fun x _ => k - (intOf x).toNat)
              case atStart => exact ⟨0, Nat.zero_le _, rfl, fun i hi => absurd hi (by omega), hP6, hb6⟩
              case round =>
                clear hP6 hb6
                obtain ⟨j, hj, rfl, hsq, hP, hb⟩ := hrel
                by_cases hjk : j < k
                · have hj' : (j : Int) < k := by omega
                  have hj1 : (j : Int) < l.length := by omega
                  have hj0 : (0 : Int) ≤ j := by omega
                  obtain ⟨_, _, e0, hbl, p0, p1, p2, p3, p4⟩ := pc_at (HD.out.old hb) j (by omega)
                  cases e0
                  have s1 : wr.cell? ⟨gp, 1, none⟩ = some (.int .i64 (ge l k).m) := hP.cell 1
                  have s2 : wr.cell? ⟨gp, 2, none⟩ = some (.int .i64 (ge l k).r) := hP.cell 2
                  have s3 : wr.cell? ⟨gp, 3, none⟩ = some (.int .i64 (ge l k).l) := hP.cell 3
                  have j1 := hP.lt
                  by_cases z1 : (ge l j).m = (ge l k).m
                  · by_cases z2 : (ge l j).r = (ge l k).r
                    · by_cases z3 : (ge l j).l = (ge l k).l
                      · have H : Hid (rgt rs ns v l = false) := rgt_n k hlt (ne_no hjk (by unfold seq; rw [z1, z2, z3]; simp))
                        go_wp2_with fail
                        refine Mm.region_ext (by kernel_rfl) (by kernel_rfl) ?_; (repeat (first | go_big_quiet_step (fail) | quiet_step (fail))); refine wpQuiet_nil ?_
                        intro w7 hb7
                        go_wp2_with fail
                        go_ret
                        exact ⟨by rw [H.out]; rfl, bl_trans hb hb7⟩
                      · have y3 : ((ge l j).l == (ge l k).l) = false := beq_eq_false_iff_ne.2 z3
                        have HN := Lib.hid (snocA hsq.out (show seq (ge l j) (ge l k) = false by unfold seq; rw [y3]; simp))
                        go_wp2_with fail
                        refine Mm.region_ext (by kernel_rfl) (by kernel_rfl) ?_; (repeat (first | go_big_quiet_step (fail) | quiet_step (fail))); refine wpQuiet_nil ?_
                        intro w7 hb7
                        have hb8 := bl_trans hb hb7
                        have hP8 := hP.old hb7
                        go_wp2_with fail
                        go_roundw
                        case rel => exact ⟨j + 1, by omega, by go_num, HN, hP8, hb8⟩
                        case measure => simp [intOf]; omega
                    · have y2 : ((ge l j).r == (ge l k).r) = false := beq_eq_false_iff_ne.2 z2
                      have HN := Lib.hid (snocA hsq.out (show seq (ge l j) (ge l k) = false by unfold seq; rw [y2]; simp))
                      go_wp2_with fail
                      refine Mm.region_ext (by kernel_rfl) (by kernel_rfl) ?_; (repeat (first | go_big_quiet_step (fail) | quiet_step (fail))); refine wpQuiet_nil ?_
                      intro w7 hb7
                      have hb8 := bl_trans hb hb7
                      have hP8 := hP.old hb7
                      go_wp2_with fail
                      go_roundw
                      case rel => exact ⟨j + 1, by omega, by go_num, HN, hP8, hb8⟩
                      case measure => simp [intOf]; omega
                  · have y1 : ((ge l j).m == (ge l k).m) = false := beq_eq_false_iff_ne.2 z1
                    have HN := Lib.hid (snocA hsq.out (show seq (ge l j) (ge l k) = false by unfold seq; rw [y1]; simp))
                    go_wp2_with fail
                    refine Mm.region_ext (by kernel_rfl) (by kernel_rfl) ?_; (repeat (first | go_big_quiet_step (fail) | quiet_step (fail))); refine wpQuiet_nil ?_
                    intro w7 hb7
                    have hb8 := bl_trans hb hb7
                    have hP8 := hP.old hb7
                    go_wp2_with fail
                    go_roundw
                    case rel => exact ⟨j + 1, by omega, by go_num, HN, hP8, hb8⟩
                    case measure => simp [intOf]; omega
                · obtain rfl : j = k := by omega
                  have HNE : Hid (neB l j = true) := by unfold Hid neB; exact alln_true fun i hi => by rw [hsq.out i hi]; rfl
                  have HN := Lib.hid (snocA hok.out ⟨HRI.out, HNE.out⟩)
                  go_wp2_with fail
                  go_roundw
                  case rel => exact ⟨j + 1, by omega, by go_num, HN, hb⟩
                  case measure => simp [intOf]; omega
          · have H : Hid (rgt rs ns v l = false) := rgt_r k hlt (ri_1 h1)
            have t2 : ((ge l k).c != (ge ns k).c) = true := by rw [bne_iff_ne]; exact h1
            clear h1
            refine Mm.region_ext (by kernel_rfl) (by kernel_rfl) ?_; (repeat (first | go_big_quiet_step ((go_at_call 45; exact Mm.calls_same (inside_any _ _ _ _))) | quiet_step ((go_at_call 45; exact Mm.calls_same (inside_any _ _ _ _))))); refine wpQuiet_nil ?_
            intro w3 hb3
            go_wp2_with fail
            go_ret
            exact ⟨by rw [H.out]; rfl, bl_trans hbW hb3⟩
        · obtain rfl : k = l.length := by omega
          have H := Lib.hid (rgt_y HC.out HL.out hok.out)
          go_wp2_with fail
          go_ret
          exact ⟨by rw [H.out]; rfl, hb⟩
    · have H := Lib.hid (rgt_l (rs := rs) (v := v) hlen)
      have t1 : (((l.length : Int)) != (ns.length : Int)) = true := by rw [bne_iff_ne]; omega
      clear hlen
      go_enter Try.func31, Try.ntmps31
      go_wp2_with fail
      refine HCK.out.mono ?_
      rintro e w1 ⟨rfl, hb1⟩
      go_wp2_with fail
      go_ret
      exact ⟨by rw [H.out]; rfl, hb1⟩
  · have H := Lib.hid (rgt_c l hc)
    have t : (chk rs ns v != 0) = true := by rw [bne_iff_ne]; exact hc
    clear hc
    generalize chk rs ns v = x at *
    go_enter Try.func31, Try.ntmps31
    go_wp2_with fail
    refine HCK.out.mono ?_
    rintro e w1 ⟨rfl, hb1⟩
    go_wp2_with fail
    go_ret
    exact ⟨by rw [H.out]; rfl, hb1⟩
end Go.Proofs.Ytcidpgjeddogmaa.Pl
