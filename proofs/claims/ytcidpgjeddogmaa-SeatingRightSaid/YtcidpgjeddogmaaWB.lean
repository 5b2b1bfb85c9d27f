/- Walk: seating.Right. -/
import Derived.Test.YtcidpgjeddogmaaWA
import Derived.WalkKit
import Derived.WalkSpells
import Derived.WalkLawsBesides
import Derived.Deep.QuietTactic
import Derived.BigQuiet
import Derived.Deep.Draws
import Derived.Deep.AppendLies
import Derived.Laws.OwnMore
import Derived.Laws.BytesArg
import Derived.Lib.Hide
import Derived.Deep.LoopGhost
namespace Go.Proofs.Ytcidpgjeddogmaa.Pl
open Go.RowKit
open Go.Proofs.Ytcidpgjeddogmaa.Mw
open Go.Proofs.Ytcidpgjeddogmaa.St
set_option linter.unusedVariables false
set_option linter.unusedSimpArgs false

section
variable {rs : List Rm} {ns : List Nd} {v : Int} {l : List Pc} {i : Nat}
theorem ri_1 (h : ¬ (ge l i).c = (ge ns i).c) : riB rs ns v l i = false := by unfold riB; rw [beq_eq_false_iff_ne.2 h]; rfl
theorem ri_2 (h : ¬ (0 ≤ (ge l i).m ∧ (ge l i).m < rs.length)) : riB rs ns v l i = false := by unfold riB; rw [(ins_no _ _ _).2 (fun x => h (by omega))]; simp
theorem ri_3 (h : sut (rmI rs (ge l i).m) (ge ns i) = false) : riB rs ns v l i = false := by unfold riB; rw [h]; simp
theorem ri_4 (h : ¬ (0 ≤ (ge l i).r ∧ (ge l i).r < (rmI rs (ge l i).m).r)) : riB rs ns v l i = false := by unfold riB; rw [(ins_no (ge l i).r _ _).2 (fun x => h (by omega))]; simp
theorem ri_5 (h : ¬ (0 ≤ (ge l i).l ∧ (ge l i).l < (rmI rs (ge l i).m).c)) : riB rs ns v l i = false := by unfold riB; rw [(ins_no (ge l i).l _ _).2 (fun x => h (by omega))]; simp
theorem ri_6 (h : ¬ (ge l i).v = var (ge l i).r (ge l i).l v) : riB rs ns v l i = false := by unfold riB; rw [beq_eq_false_iff_ne.2 h]; simp
theorem ri_y (h1 : (ge l i).c = (ge ns i).c) (h2 : 0 ≤ (ge l i).m ∧ (ge l i).m < rs.length) (h3 : sut (rmI rs (ge l i).m) (ge ns i) = true) (h4 : 0 ≤ (ge l i).r ∧ (ge l i).r < (rmI rs (ge l i).m).r) (h5 : 0 ≤ (ge l i).l ∧ (ge l i).l < (rmI rs (ge l i).m).c) (h6 : (ge l i).v = var (ge l i).r (ge l i).l v) : riB rs ns v l i = true := by
  unfold riB
  rw [beq_iff_eq.2 h1, beq_iff_eq.2 h6, (ins_iff _ _ _).2 (show 0 ≤ (ge l i).m ∧ (ge l i).m ≤ (rs.length : Int) - 1 by omega), h3, (ins_iff _ _ _).2 (show 0 ≤ (ge l i).r ∧ (ge l i).r ≤ (rmI rs (ge l i).m).r - 1 by omega), (ins_iff _ _ _).2 (show 0 ≤ (ge l i).l ∧ (ge l i).l ≤ (rmI rs (ge l i).m).c - 1 by omega)]
  rfl
theorem ne_any (l : List Pc) (p : Pc) : ∀ k, k ≤ l.length → alln k (fun j => !(seq (ge l j) p)) = !((l.take k).any fun x => seq x p)
  | 0, _ => rfl
  | k + 1, hk => by
    have e : l.take (k + 1) = l.take k ++ [ge l k] := by
      rw [List.take_add_one, ge_lt l k (by omega)]; rfl
    rw [e, List.any_append]
    show (alln k _ && _) = _
    rw [ne_any l p k (by omega)]
    simp
theorem neB_any {k : Nat} (h : k ≤ l.length) : neB l k = !((l.take k).any fun x => seq x (ge l k)) := ne_any l _ k h
theorem take_snoc {k : Nat} (h : k < l.length) : l.take (k + 1) = l.take k ++ [ge l k] := by rw [List.take_add_one, ge_lt l k h]; rfl
end
theorem pc_at {w : World} {A : Option Addr} {l : List Pc} (h : RdR 5 pcl w A l) (i : Nat) (hi : i < l.length) : ∃ b off, A = some ⟨b, off, none⟩ ∧ b < w.heap.size ∧ w.cell? ⟨b, off + i * 5, none⟩ = some (.int .i64 (ge l i).c) ∧ w.cell? ⟨b, off + i * 5 + 1, none⟩ = some (.int .i64 (ge l i).m) ∧ w.cell? ⟨b, off + i * 5 + 2, none⟩ = some (.int .i64 (ge l i).r) ∧ w.cell? ⟨b, off + i * 5 + 3, none⟩ = some (.int .i64 (ge l i).l) ∧ w.cell? ⟨b, off + i * 5 + 4, none⟩ = some (.int .i64 (ge l i).v) := by
  obtain ⟨b, off, e, hlt, hc⟩ := h i hi
  exact ⟨b, off, e, hlt, hc 0 (by omega), hc 1 (by omega), hc 2 (by omega), hc 3 (by omega), hc 4 (by omega)⟩
abbrev pca (p : Pc) : Array Value := #[.int .i64 p.c, .int .i64 p.m, .int .i64 p.r, .int .i64 p.l, .int .i64 p.v]
abbrev sta (p : Pc) : Array Value := #[.int .i64 p.m, .int .i64 p.r, .int .i64 p.l]
set_option maxHeartbeats 8000000 in
set_option maxRecDepth 100000 in
theorem right_any (rs : List Rm) (ns : List Nd) (v : Int) (l : List Pc) (A B D : Option Addr) (cA cB cD : Nat) (w : World) (hl1 : rs.length ≤ maxLen) (hl2 : ns.length ≤ maxLen) (hl3 : l.length ≤ maxLen) (hA : RdRm w A rs) (hB : RdNd w B ns) (hD : RdR 5 pcl w D l) (hI : ∀ p, p ∈ l → PcI p) :
    Calls Try.prog 30 #[.slice A rs.length cA, .slice B ns.length cB, .int .i64 v, .slice D l.length cD] w fun e w' => e = .returned (.bool (rgt rs ns v l)) ∧ Below w.heap.size w w' := by
  have HCK := Lib.hid (check_any rs ns v A B cA cB w hl1 hl2 hA hB)
  have HA := Lib.hid hA
  have HB := Lib.hid hB
  have HD := Lib.hid hD
  have HI := Lib.hid hI
  clear hA hB hD hI
  unfold maxLen at hl1 hl2 hl3
  have hmm := @run_makeMap Try.prog
  by_cases hc : chk rs ns v = 0
  · have hcl := chk_0_inv hc
    have hr8 : (rs.length : Int) ≤ 8 := by omega
    have hn60 : (ns.length : Int) ≤ 60 := by omega
    have HC := Lib.hid hc
    have HR : Hid (∀ i, i < rs.length → rmB (ge rs i) = true) := hcl.2.2.2.1
    rw [hc] at HCK
    clear hc hcl
    by_cases hlen : l.length = ns.length
    · have HL := Lib.hid hlen
      have t1 : (((l.length : Int)) != (ns.length : Int)) = false := by simp [hlen]
      have hq60 : (l.length : Int) ≤ 60 := by omega
      clear hlen
      go_enter Try.func30, Try.ntmps30
      go_wp2_with fail
      refine HCK.out.mono ?_
      rintro e w1 ⟨rfl, hb1⟩
      have hS0 := SetM.new w1
      clear HCK
      have hc1 : Below w.heap.size w (w1.alloc (.map #[] 0)) := bl_alloc hb1 _
      have hgm : w.heap.size ≤ w1.heap.size := hb1.size
      go_wp2_with fail
      generalize (w1.alloc (.map #[] 0)) = w2 at hS0 hc1 ⊢
      generalize w1.heap.size = gm at hS0 hgm ⊢
      have hS1 : SetM w2 gm (l.take 0) := hS0
      clear hS0 hb1 hmm
      go_loopw [29] (fun x wr => ∃ k : Nat, k ≤ l.length ∧ x = .int .i64 k ∧ Hid (∀ j, j < k → riB rs ns v l j = true ∧ neB l j = true) ∧ SetM wr gm (l.take k) ∧ Below w.heap.size w wr) (fun x _ => l.length - (intOf x).toNat)
      case atStart => exact ⟨0, Nat.zero_le _, rfl, fun j hj => absurd hj (by omega), hS1, hc1⟩
      case round =>
        clear hS1 hc1
        obtain ⟨k, hk, rfl, hok, hS, hb⟩ := hrel
        by_cases hlt : k < l.length
        · have hk' : (k : Int) < l.length := by omega
          have hk0 : (0 : Int) ≤ k := by omega
          have hkn : k < ns.length := by have := HL.out; omega
          have hkn' : (k : Int) < ns.length := by omega
          obtain ⟨b, off, rfl, hbl, p0, p1, p2, p3, p4⟩ := pc_at (HD.out.old hb) k hlt
          have hbW : Below w.heap.size w ((wr.alloc (.cells (pca (ge l k)) 52)).alloc (.cells (sta (ge l k)) 50)) := by (repeat (first | with_reducible exact Below.refl _ _ | with_reducible refine bl_drewN ?_ _ | with_reducible refine Below.drew ?_ | with_reducible refine bl_alloc ?_ _ | with_reducible refine Below.alloc ?_ (by first | omega | (simp; done) | (simp; omega)) _ | with_reducible refine Below.setCell ?_ (by first | omega | (simp; done) | (simp; omega)) _ | with_reducible assumption))
          have hSW : SetM ((wr.alloc (.cells (pca (ge l k)) 52)).alloc (.cells (sta (ge l k)) 50)) gm (l.take k) := hS.old (by (repeat (first | with_reducible exact Below.refl _ _ | with_reducible refine bl_drewN ?_ _ | with_reducible refine Below.drew ?_ | with_reducible refine bl_alloc ?_ _ | with_reducible refine Below.alloc ?_ (by first | omega | (simp; done) | (simp; omega)) _ | with_reducible refine Below.setCell ?_ (by first | omega | (simp; done) | (simp; omega)) _ | with_reducible assumption)))
          have hPW : Bk ((wr.alloc (.cells (pca (ge l k)) 52)).alloc (.cells (sta (ge l k)) 50)) wr.heap.size 52 (pca (ge l k)) := (Bk.new _ _ _).alloc _
          have hQW : Bk ((wr.alloc (.cells (pca (ge l k)) 52)).alloc (.cells (sta (ge l k)) 50)) (wr.heap.size + 1) 50 (sta (ge l k)) := Bk.new' (by simp)
          go_upto_region 8 with fail
          generalize ((wr.alloc (.cells (pca (ge l k)) 52)).alloc (.cells (sta (ge l k)) 50)) = W at hbW hSW hPW hQW ⊢
          clear p0 p1 p2 p3 p4 hS hb hbl
          generalize wr.heap.size + 1 = gs at hQW ⊢
          generalize wr.heap.size = gp at hPW ⊢
          have hpi := HI.out _ (ge_mem l k hlt)
          have HPI := Lib.hid hpi
          clear hpi
          have p0 : W.cell? ⟨gp, 0, none⟩ = some (.int .i64 (ge l k).c) := hPW.cell 0
          have s0 : W.cell? ⟨gs, 0, none⟩ = some (.int .i64 (ge l k).m) := hQW.cell 0
          have s1 : W.cell? ⟨gs, 1, none⟩ = some (.int .i64 (ge l k).r) := hQW.cell 1
          have s2 : W.cell? ⟨gs, 2, none⟩ = some (.int .i64 (ge l k).l) := hQW.cell 2
          have j0 := hPW.lt
          have j1 := hQW.lt
          obtain ⟨nb, no, rfl, hnl, d0, d1⟩ := nd_at (HB.out.old hbW) k hkn
          by_cases h1 : (ge l k).c = (ge ns k).c
          · have t2 : ((ge l k).c != (ge ns k).c) = false := by rw [h1]; simp
            have H1 := Lib.hid h1
            clear h1
            by_cases h2 : (ge l k).m < 0
            · have H : Hid (rgt rs ns v l = false) := rgt_r k hlt (ri_2 (by omega))
              have t3 : decide ((ge l k).m < 0) = true := decide_eq_true h2
              clear h2
              refine Mm.region_ext (by kernel_rfl) (by kernel_rfl) ?_; (repeat (first | go_big_quiet_step (fail) | quiet_step (fail))); refine wpQuiet_nil ?_
              intro w3 hb3
              go_wp2_with fail
              go_ret
              exact ⟨by rw [H.out]; rfl, bl_trans hbW hb3⟩
            · have t3 : decide ((ge l k).m < 0) = false := decide_eq_false h2
              by_cases h3 : (rs.length : Int) ≤ (ge l k).m
              · have H : Hid (rgt rs ns v l = false) := rgt_r k hlt (ri_2 (by omega))
                have t4 : decide ((rs.length : Int) ≤ (ge l k).m) = true := decide_eq_true h3
                clear h2 h3
                refine Mm.region_ext (by kernel_rfl) (by kernel_rfl) ?_; (repeat (first | go_big_quiet_step (fail) | quiet_step (fail))); refine wpQuiet_nil ?_
                intro w3 hb3
                go_wp2_with fail
                go_ret
                exact ⟨by rw [H.out]; rfl, bl_trans hbW hb3⟩
              · have t4 : decide ((rs.length : Int) ≤ (ge l k).m) = false := decide_eq_false h3
                have hm0 : 0 ≤ (ge l k).m := by omega
                have hm1 : (ge l k).m < rs.length := by omega
                clear h2 h3
                have hlk : ∀ x, (Instr.lookup 70 (.map (some gm)) (.agg (sta (ge l k))) false).run Try.prog (Mm.ext W x) = .ok (.bool ((l.take k).any fun y => seq y (ge l k))) (Mm.ext W x) := fun x => (hSW.old (Mm.ext_below W x)).look HPI.out
                cases h4 : (l.take k).any fun y => seq y (ge l k)
                · rw [h4] at hlk
                  have HNE : Hid (neB l k = true) := by unfold Hid; rw [neB_any (by omega), h4]; rfl
                  have H4 := Lib.hid h4
                  clear h4
                  refine Mm.region_ext (by kernel_rfl) (by kernel_rfl) ?_; (repeat (first | go_big_quiet_step (fail) | quiet_step (fail))); refine wpQuiet_nil ?_
                  intro w3 hb3
                  have hb4 := bl_trans hbW hb3
                  have hS4 := hSW.old hb3
                  have hP4 := hPW.old hb3
                  have hQ4 := hQW.old hb3
                  clear hlk hSW hPW hQW hbW hb3 p0 s0 s1 s2 j0 j1 hnl d0 d1
                  obtain ⟨rb, ro, rfl, hrl, c0, c1, c2⟩ := rm_at (HA.out.old hb4) (ge l k).m.toNat (by omega)
                  have s0 : w3.cell? ⟨gs, 0, none⟩ = some (.int .i64 (ge l k).m) := hQ4.cell 0
                  have j1 := hQ4.lt
                  have hbV : Below w.heap.size w (w3.alloc (.cells #[.int .i64 (ge rs (ge l k).m.toNat).r, .int .i64 (ge rs (ge l k).m.toNat).c, .int .i64 (ge rs (ge l k).m.toNat).o] 35)) := by (repeat (first | with_reducible exact Below.refl _ _ | with_reducible refine bl_drewN ?_ _ | with_reducible refine Below.drew ?_ | with_reducible refine bl_alloc ?_ _ | with_reducible refine Below.alloc ?_ (by first | omega | (simp; done) | (simp; omega)) _ | with_reducible refine Below.setCell ?_ (by first | omega | (simp; done) | (simp; omega)) _ | with_reducible assumption))
                  have hSV : SetM (w3.alloc (.cells #[.int .i64 (ge rs (ge l k).m.toNat).r, .int .i64 (ge rs (ge l k).m.toNat).c, .int .i64 (ge rs (ge l k).m.toNat).o] 35)) gm (l.take k) := hS4.old (by (repeat (first | with_reducible exact Below.refl _ _ | with_reducible refine bl_drewN ?_ _ | with_reducible refine Below.drew ?_ | with_reducible refine bl_alloc ?_ _ | with_reducible refine Below.alloc ?_ (by first | omega | (simp; done) | (simp; omega)) _ | with_reducible refine Below.setCell ?_ (by first | omega | (simp; done) | (simp; omega)) _ | with_reducible assumption)))
                  have hPV := hP4.alloc (.cells #[.int .i64 (ge rs (ge l k).m.toNat).r, .int .i64 (ge rs (ge l k).m.toNat).c, .int .i64 (ge rs (ge l k).m.toNat).o] 35)
                  have hQV := hQ4.alloc (.cells #[.int .i64 (ge rs (ge l k).m.toNat).r, .int .i64 (ge rs (ge l k).m.toNat).c, .int .i64 (ge rs (ge l k).m.toNat).o] 35)
                  have hRV := Bk.new w3 35 #[.int .i64 (ge rs (ge l k).m.toNat).r, .int .i64 (ge rs (ge l k).m.toNat).c, .int .i64 (ge rs (ge l k).m.toNat).o]
                  go_upto_region 11 with fail
                  generalize (w3.alloc (.cells #[.int .i64 (ge rs (ge l k).m.toNat).r, .int .i64 (ge rs (ge l k).m.toNat).c, .int .i64 (ge rs (ge l k).m.toNat).o] 35)) = V at hbV hSV hPV hQV hRV ⊢
                  generalize w3.heap.size = gr at hRV ⊢
                  clear c0 c1 c2 s0 j1 hrl hS4 hP4 hQ4 hb4
                  have s1 : V.cell? ⟨gs, 1, none⟩ = some (.int .i64 (ge l k).r) := hQV.cell 1
                  have s2 : V.cell? ⟨gs, 2, none⟩ = some (.int .i64 (ge l k).l) := hQV.cell 2
                  have r0 : V.cell? ⟨gr, 0, none⟩ = some (.int .i64 (ge rs (ge l k).m.toNat).r) := hRV.cell 0
                  have r1 : V.cell? ⟨gr, 1, none⟩ = some (.int .i64 (ge rs (ge l k).m.toNat).c) := hRV.cell 1
                  have r2 : V.cell? ⟨gr, 2, none⟩ = some (.int .i64 (ge rs (ge l k).m.toNat).o) := hRV.cell 2
                  have j1 := hQV.lt
                  have j2 := hRV.lt
                  obtain ⟨_, _, e0, hnl, d0, d1⟩ := nd_at (HB.out.old hbV) k hkn
                  cases e0
                  cases hsu : sut (ge rs (ge l k).m.toNat) (ge ns k)
                  · have H : Hid (rgt rs ns v l = false) := rgt_r k hlt (ri_3 hsu)
                    go_wp2_with fail
                    refine Mm.region_ext (by kernel_rfl) (by kernel_rfl) ?_; (repeat (first | go_big_quiet_step ((go_at_call 23; exact Mm.calls_ext (suits_any (ge rs (ge l k).m.toNat) (ge ns k) _))) | quiet_step ((go_at_call 23; exact Mm.calls_ext (suits_any (ge rs (ge l k).m.toNat) (ge ns k) _))))); refine wpQuiet_nil ?_
                    intro w5 hb5
                    go_wp2_with fail
                    go_ret
                    exact ⟨by rw [H.out]; rfl, bl_trans hbV hb5⟩
                  · have Hsu := Lib.hid hsu
                    by_cases h5 : (ge l k).r < 0
                    · have H : Hid (rgt rs ns v l = false) := rgt_r k hlt (ri_4 (by omega))
                      have t5 : decide ((ge l k).r < 0) = true := decide_eq_true h5
                      clear h5
                      go_wp2_with fail
                      refine Mm.region_ext (by kernel_rfl) (by kernel_rfl) ?_; (repeat (first | go_big_quiet_step ((go_at_call 23; exact Mm.calls_ext (suits_any (ge rs (ge l k).m.toNat) (ge ns k) _))) | quiet_step ((go_at_call 23; exact Mm.calls_ext (suits_any (ge rs (ge l k).m.toNat) (ge ns k) _))))); refine wpQuiet_nil ?_
                      intro w5 hb5
                      go_wp2_with fail
                      go_ret
                      exact ⟨by rw [H.out]; rfl, bl_trans hbV hb5⟩
                    · have t5 : decide ((ge l k).r < 0) = false := decide_eq_false h5
                      by_cases h6 : (ge rs (ge l k).m.toNat).r ≤ (ge l k).r
                      · have H : Hid (rgt rs ns v l = false) := rgt_r k hlt (ri_4 (by unfold rmI; omega))
                        have t6 : decide ((ge rs (ge l k).m.toNat).r ≤ (ge l k).r) = true := decide_eq_true h6
                        clear h5 h6
                        go_wp2_with fail
                        refine Mm.region_ext (by kernel_rfl) (by kernel_rfl) ?_; (repeat (first | go_big_quiet_step ((go_at_call 23; exact Mm.calls_ext (suits_any (ge rs (ge l k).m.toNat) (ge ns k) _))) | quiet_step ((go_at_call 23; exact Mm.calls_ext (suits_any (ge rs (ge l k).m.toNat) (ge ns k) _))))); refine wpQuiet_nil ?_
                        intro w5 hb5
                        go_wp2_with fail
                        go_ret
                        exact ⟨by rw [H.out]; rfl, bl_trans hbV hb5⟩
                      · have t6 : decide ((ge rs (ge l k).m.toNat).r ≤ (ge l k).r) = false := decide_eq_false h6
                        have H56 : Hid (0 ≤ (ge l k).r ∧ (ge l k).r < (rmI rs (ge l k).m).r) := by unfold Hid rmI; omega
                        clear h5 h6
                        by_cases h7 : (ge l k).l < 0
                        · have H : Hid (rgt rs ns v l = false) := rgt_r k hlt (ri_5 (by omega))
                          have t7 : decide ((ge l k).l < 0) = true := decide_eq_true h7
                          clear h7
                          go_wp2_with fail
                          refine Mm.region_ext (by kernel_rfl) (by kernel_rfl) ?_; (repeat (first | go_big_quiet_step ((go_at_call 23; exact Mm.calls_ext (suits_any (ge rs (ge l k).m.toNat) (ge ns k) _))) | quiet_step ((go_at_call 23; exact Mm.calls_ext (suits_any (ge rs (ge l k).m.toNat) (ge ns k) _))))); refine wpQuiet_nil ?_
                          intro w5 hb5
                          go_wp2_with fail
                          go_ret
                          exact ⟨by rw [H.out]; rfl, bl_trans hbV hb5⟩
                        · have t7 : decide ((ge l k).l < 0) = false := decide_eq_false h7
                          by_cases h8 : (ge rs (ge l k).m.toNat).c ≤ (ge l k).l
                          · have H : Hid (rgt rs ns v l = false) := rgt_r k hlt (ri_5 (by unfold rmI; omega))
                            have t8 : decide ((ge rs (ge l k).m.toNat).c ≤ (ge l k).l) = true := decide_eq_true h8
                            clear h7 h8
                            go_wp2_with fail
                            refine Mm.region_ext (by kernel_rfl) (by kernel_rfl) ?_; (repeat (first | go_big_quiet_step ((go_at_call 23; exact Mm.calls_ext (suits_any (ge rs (ge l k).m.toNat) (ge ns k) _))) | quiet_step ((go_at_call 23; exact Mm.calls_ext (suits_any (ge rs (ge l k).m.toNat) (ge ns k) _))))); refine wpQuiet_nil ?_
                            intro w5 hb5
                            go_wp2_with fail
                            go_ret
                            exact ⟨by rw [H.out]; rfl, bl_trans hbV hb5⟩
                          · have t8 : decide ((ge rs (ge l k).m.toNat).c ≤ (ge l k).l) = false := decide_eq_false h8
                            have H78 : Hid (0 ≤ (ge l k).l ∧ (ge l k).l < (rmI rs (ge l k).m).c) := by unfold Hid rmI; omega
                            clear h7 h8
                            go_wp2_with fail
                            refine Mm.region_ext (by kernel_rfl) (by kernel_rfl) ?_; (repeat (first | go_big_quiet_step ((go_at_call 23; exact Mm.calls_ext (suits_any (ge rs (ge l k).m.toNat) (ge ns k) _))) | quiet_step ((go_at_call 23; exact Mm.calls_ext (suits_any (ge rs (ge l k).m.toNat) (ge ns k) _))))); refine wpQuiet_nil ?_
                            intro w5 hb5
                            have hb6 := bl_trans hbV hb5
                            have hS6 := hSV.old hb5
                            have hP6 := hPV.old hb5
                            have hQ6 := hQV.old hb5
                            clear hbV hSV hPV hQV hRV hb5 s1 s2 r0 r1 r2 j1 j2 hnl d0 d1 t2 t3 t4 t5 t6 t7 t8 hsu
                            have p4 : w5.cell? ⟨gp, 4, none⟩ = some (.int .i64 (ge l k).v) := hP6.cell 4
                            have s0 : w5.cell? ⟨gs, 0, none⟩ = some (.int .i64 (ge l k).m) := hQ6.cell 0
                            have s1 : w5.cell? ⟨gs, 1, none⟩ = some (.int .i64 (ge l k).r) := hQ6.cell 1
                            have s2 : w5.cell? ⟨gs, 2, none⟩ = some (.int .i64 (ge l k).l) := hQ6.cell 2
                            have j0 := hP6.lt
                            have j1 := hQ6.lt
                            by_cases h9 : (ge l k).v = var (ge l k).r (ge l k).l v
                            · have HN := Lib.hid (snocA hok.out ⟨ri_y H1.out ⟨hm0, hm1⟩ Hsu.out H56.out H78.out h9, HNE.out⟩)
                              have t9 : ((ge l k).v != var (ge l k).r (ge l k).l v) = false := by rw [h9]; simp
                              clear h9
                              go_wp2_with fail
                              refine Mm.region_ext (by kernel_rfl) (by kernel_rfl) ?_; (repeat (first | go_big_quiet_step ((go_at_call 21; exact Mm.calls_same (variant_any _ _ _ _))) | quiet_step ((go_at_call 21; exact Mm.calls_same (variant_any _ _ _ _))))); refine wpQuiet_nil ?_
                              intro w7 hb7
                              have hb8 := bl_trans hb6 hb7
                              have hS8 := hS6.old hb7
                              have hQ8 := hQ6.old hb7
                              clear hS6 hP6 hQ6 hb6 hb7 p4 s0 s1 s2 j0 j1
                              have s0 : w7.cell? ⟨gs, 0, none⟩ = some (.int .i64 (ge l k).m) := hQ8.cell 0
                              have s1 : w7.cell? ⟨gs, 1, none⟩ = some (.int .i64 (ge l k).r) := hQ8.cell 1
                              have s2 : w7.cell? ⟨gs, 2, none⟩ = some (.int .i64 (ge l k).l) := hQ8.cell 2
                              have j1 := hQ8.lt
                              obtain ⟨w9, hput, hS9, hg9⟩ := hS8.put HPI.out H4.out
                              rw [← take_snoc hlt] at hS9
                              have hb10 : Below w.heap.size w w9 := bl_gb hb8 hg9 hgm
                              clear hS8 hg9
                              go_wp2_with fail
                              go_roundw
                              case rel => exact ⟨k + 1, by omega, by go_num, HN, hS9, hb10⟩
                              case measure => simp [intOf]; omega
                            · have H : Hid (rgt rs ns v l = false) := rgt_r k hlt (ri_6 h9)
                              have t9 : ((ge l k).v != var (ge l k).r (ge l k).l v) = true := by rw [bne_iff_ne]; exact h9
                              clear h9
                              go_wp2_with fail
                              refine Mm.region_ext (by kernel_rfl) (by kernel_rfl) ?_; (repeat (first | go_big_quiet_step ((go_at_call 21; exact Mm.calls_same (variant_any _ _ _ _))) | quiet_step ((go_at_call 21; exact Mm.calls_same (variant_any _ _ _ _))))); refine wpQuiet_nil ?_
                              intro w7 hb7
                              go_wp2_with fail
                              go_ret
                              exact ⟨by rw [H.out]; rfl, bl_trans hb6 hb7⟩
                · rw [h4] at hlk
                  have H : Hid (rgt rs ns v l = false) := rgt_n k hlt (by rw [neB_any (by omega), h4]; rfl)
                  clear h4
                  refine Mm.region_ext (by kernel_rfl) (by kernel_rfl) ?_; (repeat (first | go_big_quiet_step (fail) | quiet_step (fail))); refine wpQuiet_nil ?_
                  intro w3 hb3
                  go_wp2_with fail
                  go_ret
                  exact ⟨by rw [H.out]; rfl, bl_trans hbW hb3⟩
          · have H : Hid (rgt rs ns v l = false) := rgt_r k hlt (ri_1 h1)
            have t2 : ((ge l k).c != (ge ns k).c) = true := by rw [bne_iff_ne]; exact h1
            clear h1
            refine Mm.region_ext (by kernel_rfl) (by kernel_rfl) ?_; (repeat (first | go_big_quiet_step (fail) | quiet_step (fail))); refine wpQuiet_nil ?_
            intro w3 hb3
            go_wp2_with fail
            go_ret
            exact ⟨by rw [H.out]; rfl, bl_trans hbW hb3⟩
        · obtain rfl : k = l.length := by omega
          have H := Lib.hid (rgt_y HC.out HL.out hok.out)
          go_wp2_with fail
          go_ret
          exact ⟨by rw [H.out]; rfl, hb⟩
    · have H := Lib.hid (rgt_l (rs := rs) (v := v) hlen)
      have t1 : (((l.length : Int)) != (ns.length : Int)) = true := by rw [bne_iff_ne]; omega
      clear hlen
      go_enter Try.func30, Try.ntmps30
      go_wp2_with fail
      refine HCK.out.mono ?_
      rintro e w1 ⟨rfl, hb1⟩
      go_wp2_with fail
      go_ret
      exact ⟨by rw [H.out]; rfl, hb1⟩
  · have H := Lib.hid (rgt_c l hc)
    have t : (chk rs ns v != 0) = true := by rw [bne_iff_ne]; exact hc
    clear hc
    generalize chk rs ns v = x at *
    go_enter Try.func30, Try.ntmps30
    go_wp2_with fail
    refine HCK.out.mono ?_
    rintro e w1 ⟨rfl, hb1⟩
    go_wp2_with fail
    go_ret
    exact ⟨by rw [H.out]; rfl, hb1⟩
end Go.Proofs.Ytcidpgjeddogmaa.Pl
