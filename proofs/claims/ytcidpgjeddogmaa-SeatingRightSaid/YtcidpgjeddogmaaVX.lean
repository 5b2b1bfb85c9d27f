/- Walk: seating.Place. -/
import Derived.Test.YtcidpgjeddogmaaVT
import Derived.Test.YtcidpgjeddogmaaVU
import Derived.Test.YtcidpgjeddogmaaVV
import Derived.Test.YtcidpgjeddogmaaVW
import Derived.Laws.EntriesVeiled
import Derived.WalkKit
import Derived.WalkSpells
import Derived.WalkLawsBesides
import Derived.Deep.QuietTactic
import Derived.BigQuiet
import Derived.Deep.Draws
import Derived.Deep.AppendLies
import Derived.Laws.OwnMore
import Derived.Laws.BytesArg
import Derived.Lib.Hide
import Derived.Deep.LoopGhost
namespace Go.Proofs.Ytcidpgjeddogmaa.Pl
open Go.RowKit
open Go.Proofs.Ytcidpgjeddogmaa.Mw
open Go.Proofs.Ytcidpgjeddogmaa.St
set_option linter.unusedVariables false
set_option linter.unusedSimpArgs false

/-- What Place answers. -/
inductive PlcP (rs : List Rm) (ns : List Nd) (v : Int) (w : World) (e : Ending) (w' : World) : Prop where
  | bad (hc : ¬ chk rs ns v = 0) (he : e = .returned (.tuple #[.slice none 0 0, .slice none 0 0, .int .i64 (chk rs ns v)])) (hb : Below w.heap.size w w')
  | short (hc : chk rs ns v = 0) (l : List Int) (A : Option Addr) (c : Nat) (he : e = .returned (.tuple #[.slice none 0 0, .slice A l.length c, .int .i64 10])) (hr : RdI w' .i64 A l) (hs : shr rs ns l = true) (hl : l.length ≤ 1000) (hb : Below w.heap.size w w')
  | all (hc : chk rs ns v = 0) (q : List Int) (hq : asg rs ns v q = (asl rs ns v q ns.length, 0)) (hql : q.length = ns.length) (A : Option Addr) (c : Nat) (he : e = .returned (.tuple #[.slice A ns.length c, .slice none 0 0, .int .i64 0])) (hr : RdR 5 pcl w' A (asl rs ns v q ns.length)) (hb : Below w.heap.size w w')
theorem vme_bd {V : Nat → Bool} {m : Nat → List Nat} : ∀ {k : Nat}, (∀ r, r < k → (m r).length ≤ 64) → (vme V m k).length ≤ 64 * k
  | 0, _ => by simp [vme]
  | k + 1, h => by
    have ih := vme_bd (V := V) (m := m) (k := k) fun r hr => h r (by omega)
    have h1 := h k (by omega)
    unfold vme
    rw [List.length_append]
    split
    · omega
    · simp; omega
theorem chk_two {rs : List Rm} {ns : List Nd} {v : Int} (h : chk rs ns v = 0) : chk rs ns 2 = 0 := by
  obtain ⟨h1, h2, -, h4, h5, h6, h7⟩ := chk_0_inv h
  exact chk_0 (by omega) rfl h4 h5 h6 h7
set_option maxHeartbeats 4000000 in
set_option maxRecDepth 100000 in
theorem place_any (rs : List Rm) (ns : List Nd) (v : Int) (A B : Option Addr) (cA cB : Nat) (w : World) (hl1 : rs.length ≤ maxLen) (hl2 : ns.length ≤ maxLen) (hA : RdRm w A rs) (hB : RdNd w B ns) :
    Calls Try.prog 36 #[.slice A rs.length cA, .slice B ns.length cB, .int .i64 v] w (PlcP rs ns v w) := by
  have HCK : Hid (∀ W, Below w.heap.size w W → Calls Try.prog 18 #[.slice A rs.length cA, .slice B ns.length cB, .int .i64 v] W fun e w' => e = .returned (.int .i64 (chk rs ns v)) ∧ Below W.heap.size W w') := fun W hW => check_any rs ns v A B cA cB W hl1 hl2 (hA.old hW) (hB.old hW)
  have HA := Lib.hid hA
  have HB := Lib.hid hB
  clear hA hB
  have HL1 := Lib.hid hl1
  have HL2 := Lib.hid hl2
  unfold maxLen at hl1 hl2
  have hb0 : Below w.heap.size w ((w.alloc (.cells #[.slice A rs.length cA] 25)).alloc (.cells #[.slice B ns.length cB] 27)) := by (repeat (first | with_reducible exact Below.refl _ _ | with_reducible refine bl_drewN ?_ _ | with_reducible refine Below.drew ?_ | with_reducible refine bl_alloc ?_ _ | with_reducible refine Below.alloc ?_ (by first | omega | (simp; done) | (simp; omega)) _ | with_reducible refine Below.setCell ?_ (by first | omega | (simp; done) | (simp; omega)) _ | with_reducible assumption))
  by_cases hc : chk rs ns v = 0
  · have hcl := chk_0_inv hc
    have hr8 : (rs.length : Int) ≤ 8 := by omega
    have hn60 : (ns.length : Int) ≤ 60 := by omega
    have HC := Lib.hid hc
    have HR : Hid (∀ i, i < rs.length → rmB (ge rs i) = true) := hcl.2.2.2.1
    rw [hc] at HCK
    clear hc hcl
    go_enter Try.func36, Try.ntmps36
    go_wp2_with fail
    refine (HCK.out _ (by (repeat (first | with_reducible exact Below.refl _ _ | with_reducible refine bl_drewN ?_ _ | with_reducible refine Below.drew ?_ | with_reducible refine bl_alloc ?_ _ | with_reducible refine Below.alloc ?_ (by first | omega | (simp; done) | (simp; omega)) _ | with_reducible refine Below.setCell ?_ (by first | omega | (simp; done) | (simp; omega)) _ | with_reducible assumption)))).mono ?_
    rintro e w1 ⟨rfl, hb1⟩
    have hc1 := bl_trans hb0 hb1
    have B0 : Bk w1 w.heap.size 25 #[.slice A rs.length cA] := Bk.old (by (repeat (first | ((with_reducible refine Bk.new' ?_); (first | rfl | (simp; done) | (simp; omega))) | with_reducible refine Bk.alloc ?_ _ | with_reducible refine Bk.drewN ?_ _ | with_reducible refine Bk.drew ?_ | with_reducible assumption))) hb1
    have B1 : Bk w1 (w.heap.size + 1) 27 #[.slice B ns.length cB] := Bk.old (by (repeat (first | ((with_reducible refine Bk.new' ?_); (first | rfl | (simp; done) | (simp; omega))) | with_reducible refine Bk.alloc ?_ _ | with_reducible refine Bk.drewN ?_ _ | with_reducible refine Bk.drew ?_ | with_reducible assumption))) hb1
    clear HCK hb0 hb1
    have b0 := bcells B0
    have b1 := bcells B1
    have l0 := B0.lt
    have l1 := B1.lt
    have hz1 : (w1.alloc (.cells #[.int .i64 (-1)] 3)).heap.size = w1.heap.size + 1 := by simp
    go_wp2_with fail
    refine (repeat_any ns.length (by omega) (-1) w1.heap.size _ (Bk.new _ _ _)).mono ?_
    rintro e w2 ⟨rfl, Q2, hb2⟩
    rw [hz1] at Q2 ⊢
    have hc2 : Below w.heap.size w w2 := bl_trans (by (repeat (first | with_reducible exact Below.refl _ _ | with_reducible refine bl_drewN ?_ _ | with_reducible refine Below.drew ?_ | with_reducible refine bl_alloc ?_ _ | with_reducible refine Below.alloc ?_ (by first | omega | (simp; done) | (simp; omega)) _ | with_reducible refine Below.setCell ?_ (by first | omega | (simp; done) | (simp; omega)) _ | with_reducible assumption))) hb2
    have B2 : Bk w2 w.heap.size 25 #[.slice A rs.length cA] := Bk.old (by (repeat (first | ((with_reducible refine Bk.new' ?_); (first | rfl | (simp; done) | (simp; omega))) | with_reducible refine Bk.alloc ?_ _ | with_reducible refine Bk.drewN ?_ _ | with_reducible refine Bk.drew ?_ | with_reducible assumption))) hb2
    have B3 : Bk w2 (w.heap.size + 1) 27 #[.slice B ns.length cB] := Bk.old (by (repeat (first | ((with_reducible refine Bk.new' ?_); (first | rfl | (simp; done) | (simp; omega))) | with_reducible refine Bk.alloc ?_ _ | with_reducible refine Bk.drewN ?_ _ | with_reducible refine Bk.drew ?_ | with_reducible assumption))) hb2
    have l3 := Q2.lt
    have hgq : w.heap.size ≤ w1.heap.size + 1 := by have := hc1.size; omega
    clear hb2 hc1 B0 B1 b0 b1 l0 l1 hz1
    go_upto_region 5 with fail
    have hb3 : Below w2.heap.size w2 (w2.alloc (.cells #[.slice (some ⟨w1.heap.size + 1, 0, none⟩) ns.length ns.length] 22)) := by (repeat (first | with_reducible exact Below.refl _ _ | with_reducible refine bl_drewN ?_ _ | with_reducible refine Below.drew ?_ | with_reducible refine bl_alloc ?_ _ | with_reducible refine Below.alloc ?_ (by first | omega | (simp; done) | (simp; omega)) _ | with_reducible refine Below.setCell ?_ (by first | omega | (simp; done) | (simp; omega)) _ | with_reducible assumption))
    have R3 : Bk (w2.alloc (.cells #[.slice (some ⟨w1.heap.size + 1, 0, none⟩) ns.length ns.length] 22)) w2.heap.size 22 #[.slice (some ⟨w1.heap.size + 1, 0, none⟩) ns.length ns.length] := Bk.new w2 _ _
    have hz3 : w2.heap.size < (w2.alloc (.cells #[.slice (some ⟨w1.heap.size + 1, 0, none⟩) ns.length ns.length] 22)).heap.size := by simp
    generalize (w2.alloc (.cells #[.slice (some ⟨w1.heap.size + 1, 0, none⟩) ns.length ns.length] 22)) = w3 at hb3 R3 hz3 ⊢
    have hc3 := bl_trans hc2 hb3
    replace B2 := B2.old hb3
    replace B3 := B3.old hb3
    have Q3 := Q2.old hb3
    generalize w1.heap.size + 1 = gq at Q3 R3 hgq ⊢
    have hgR : w.heap.size ≤ w2.heap.size := hc2.size
    clear hb3 Q2 hc2 l3
    generalize w2.heap.size = gR at R3 hgR hz3 ⊢
    have b2 := bcells B2
    have l2 := B2.lt
    obtain ⟨w4, hmk, hb4, M4⟩ := make_sls rs.length (by omega) w3
    have hc4 := bl_trans hc3 hb4
    have hgm : w.heap.size ≤ w3.heap.size := hc3.size
    have hRm : gR ≠ w3.heap.size := by omega
    go_upto_region 6 with fail
    clear hmk b2 l2
    replace B2 := B2.old hb4
    replace B3 := B3.old hb4
    replace Q3 := Q3.old hb4
    replace R3 := R3.old hb4
    clear hb4 hc3 hz3
    generalize w3.heap.size = gm at M4 hgm hRm ⊢
    have hb5 : Below w4.heap.size w4 (w4.alloc (.cells #[.slice (some ⟨gm, 0, none⟩) rs.length rs.length] 73)) := by (repeat (first | with_reducible exact Below.refl _ _ | with_reducible refine bl_drewN ?_ _ | with_reducible refine Below.drew ?_ | with_reducible refine bl_alloc ?_ _ | with_reducible refine Below.alloc ?_ (by first | omega | (simp; done) | (simp; omega)) _ | with_reducible refine Below.setCell ?_ (by first | omega | (simp; done) | (simp; omega)) _ | with_reducible assumption))
    have M5 : Bk (w4.alloc (.cells #[.slice (some ⟨gm, 0, none⟩) rs.length rs.length] 73)) w4.heap.size 73 #[.slice (some ⟨gm, 0, none⟩) rs.length rs.length] := Bk.new w4 _ _
    generalize (w4.alloc (.cells #[.slice (some ⟨gm, 0, none⟩) rs.length rs.length] 73)) = w5 at hb5 M5 ⊢
    have hgM : w.heap.size ≤ w4.heap.size := hc4.size
    have hc5 := bl_trans hc4 hb5
    replace B2 := B2.old hb5
    replace B3 := B3.old hb5
    replace Q3 := Q3.old hb5
    replace R3 := R3.old hb5
    replace M4 := M4.old hb5
    clear hb5 hc4
    generalize w4.heap.size = gM at M5 hgM ⊢
    go_upto_region 9 with fail
    have hI : InvP rs.length ns.length (.slice A rs.length cA) (.slice B ns.length cB) ns.length w ⟨w.heap.size, w.heap.size + 1, gR, gM, w5.heap.size, w5.heap.size + 1, 0, gm, gq⟩ (fun _ => .slice none 0 0) ((w5.alloc (.cells #[.slice none 0 0] 74)).alloc (.cells #[.func (.func 51) #[] #[.pointer (some ⟨w.heap.size, 0, none⟩), .pointer (some ⟨w5.heap.size, 0, none⟩), .pointer (some ⟨w.heap.size + 1, 0, none⟩), .pointer (some ⟨gM, 0, none⟩), .pointer (some ⟨gR, 0, none⟩), .pointer (some ⟨w5.heap.size + 1, 0, none⟩)]] 58)) (fun _ => []) (fun _ => -1) := by
      have hsz : w.heap.size ≤ w5.heap.size := hc5.size
      refine ⟨(B2.alloc _).alloc _, (B3.alloc _).alloc _, (R3.alloc _).alloc _, (M5.alloc _).alloc _, ⟨_, (Bk.new _ _ _).alloc _⟩, Bk.new' (by simp), (M4.alloc _).alloc _, (Q3.alloc _).alloc _, fun r _ => World.ownsRow_nil _ _ _ _, fun r _ b hb => (by cases hb), fun r _ p _ _ b hb => (by cases hb), hRm, fun b hb => ?_, by (repeat (first | with_reducible exact Below.refl _ _ | with_reducible refine bl_drewN ?_ _ | with_reducible refine Below.drew ?_ | with_reducible refine bl_alloc ?_ _ | with_reducible refine Below.alloc ?_ (by first | omega | (simp; done) | (simp; omega)) _ | with_reducible refine Below.setCell ?_ (by first | omega | (simp; done) | (simp; omega)) _ | with_reducible assumption))⟩
      simp only [Bx.al, List.mem_cons, List.not_mem_nil, or_false] at hb
      omega
    have e0 := bcells hI.bN
    have l0 := hI.bN.lt
    generalize ((w5.alloc (.cells #[.slice none 0 0] 74)).alloc (.cells #[.func (.func 51) #[] #[.pointer (some ⟨w.heap.size, 0, none⟩), .pointer (some ⟨w5.heap.size, 0, none⟩), .pointer (some ⟨w.heap.size + 1, 0, none⟩), .pointer (some ⟨gM, 0, none⟩), .pointer (some ⟨gR, 0, none⟩), .pointer (some ⟨w5.heap.size + 1, 0, none⟩)]] 58)) = w6 at hI e0 l0 ⊢
    clear B2 B3 R3 M5 M4 Q3 hc5
    generalize w5.heap.size = gV at hI ⊢
    generalize gV + 1 = gF at hI ⊢
    generalize w.heap.size + 1 = gN at hI e0 l0 ⊢
    have H0 : Out rs ns 0 (fun _ => []) (fun _ => -1) := Out.zero _
    have HSQ : Hid (∀ r, r < rs.length → 0 ≤ (ge rs r).r * (ge rs r).c) := fun r hr => by have := (capR_bd (HR.out r hr)).1; omega
    have hgr : rs.length ≤ 8 := by omega
    have hgn : ns.length ≤ 60 := by omega
    go_wp2_with fail
    clear e0 l0
    go_loopw [7, 33] (fun y x wr => ∃ (k : Nat) (m : Nat → List Nat) (q : Nat → Int) (hd : Nat → Value), k ≤ ns.length ∧ y = .slice none 0 0 ∧ x = .int .i64 k ∧ Out rs ns k m q ∧ InvP rs.length ns.length (.slice A rs.length cA) (.slice B ns.length cB) ns.length w ⟨w.heap.size, gN, gR, gM, gV, gF, 0, gm, gq⟩ hd wr m q) (fun _ x _ => ns.length - (intOf x).toNat)
    case atStart => exact ⟨0, _, _, _, Nat.zero_le _, rfl, rfl, H0, hI⟩
    case round =>
      clear hI H0
      obtain ⟨k, m, q, hd, hk, rfl, rfl, hO, hI⟩ := hrel
      have e1 : wr.cell? ⟨w.heap.size, 0, none⟩ = some (.slice A rs.length cA) := bcells hI.bA
      have f1 : w.heap.size < wr.heap.size := hI.bA.lt
      by_cases hlt : k < ns.length
      · have hk' : (k : Int) < ns.length := by omega
        obtain ⟨w7, hmk, hb7, V7⟩ := make_bools rs.length (by omega) wr
        have hI7 := hI.vis hb7 V7
        obtain ⟨xv, hxv⟩ := hI.bV
        have e7 : w7.cell? ⟨gV, 0, none⟩ = some xv := bcells (hxv.old hb7)
        have f7 : gV < w7.heap.size := (hxv.old hb7).lt
        have z7 : w7.frozen? ⟨gV, 0, none⟩ = false := (hxv.old hb7).frozen 0
        change InvH _ _ _ _ _ _ _ _ (w7.setCell ⟨gV, 0, none⟩ (.slice (some ⟨wr.heap.size, 0, none⟩) rs.length rs.length)) _ at hI7
        clear hI hxv
        go_upto_region 13 with fail
        generalize w7.setCell ⟨gV, 0, none⟩ (.slice (some ⟨wr.heap.size, 0, none⟩) rs.length rs.length) = w8 at hI7 ⊢
        clear hmk hb7 V7 e7 f7 z7 e1 f1
        generalize wr.heap.size = gv at hI7 ⊢
        have e8 : w8.cell? ⟨gF, 0, none⟩ = some (.func (.func 51) #[] #[.pointer (some ⟨w.heap.size, 0, none⟩), .pointer (some ⟨gV, 0, none⟩), .pointer (some ⟨gN, 0, none⟩), .pointer (some ⟨gM, 0, none⟩), .pointer (some ⟨gR, 0, none⟩), .pointer (some ⟨gF, 0, none⟩)]) := bcells hI7.bF
        have f8 : gF < w8.heap.size := hI7.bF.lt
        have HO := Lib.hid hO
        have hni : ¬ Is rs.length (fun _ => false) m k := fun h => by have := (HO.out.is k).1 h; omega
        have Hni := Lib.hid hni
        clear hO hni
        go_wp2_with fail
        refine (aug_any rs ns A B cA cB ns.length w HA.out HB.out hgr hgn HR ⟨w.heap.size, gN, gR, gM, gV, gF, gv, gm, gq⟩ _ ⟨fun _ => false, m, q⟩ k w8 (Nat.lt_succ_self _) HO.out.ok hlt Hni.out ⟨hd, hI7⟩).mono ?_
        rintro e w9 ⟨bo, T, rfl, ⟨hd9, hI9⟩, hST⟩
        clear hI7 e8 f8
        cases bo
        · have hF : Fai rs.length (suR rs ns) (capR rs) ⟨fun _ => false, m, q⟩ k T := by simpa using hST
          clear hST
          have hTm : T.mem = m := hF.m
          have HTm := Lib.hid hTm
          have HF := Lib.hid hF
          clear hF hTm
          have hbs : w.heap.size ≤ w9.heap.size := hI9.bel.size
          have hka : RdE nat64 (w9.alloc (.cells #[.int .i64 (k : Int)] 3)) (some ⟨w9.heap.size, 0, none⟩) [k] := RdE.bk (Bk.new _ _ _) rfl
          obtain ⟨v1, w11, hrun, hown, hg11⟩ := app_nat (w := w9.alloc (.cells #[.int .i64 (k : Int)] 3)) (base := w9.heap.size) (v := .slice none 0 0) (xs := []) (l := [k]) (c := 1) (World.ownsRow_nil _ _ _ _) hka (by simp) (by simp)
          have hb11 : Below w9.heap.size w9 w11 := bl_trans (by (repeat (first | with_reducible exact Below.refl _ _ | with_reducible refine bl_drewN ?_ _ | with_reducible refine Below.drew ?_ | with_reducible refine bl_alloc ?_ _ | with_reducible refine Below.alloc ?_ (by first | omega | (simp; done) | (simp; omega)) _ | with_reducible refine Below.setCell ?_ (by first | omega | (simp; done) | (simp; omega)) _ | with_reducible assumption))) ⟨hg11.os, hg11.tape, hg11.output, hg11.size, fun i hi => hg11.block i hi (by simp [Value.ownBlock])⟩
          rw [List.nil_append] at hown
          change (Builtin.append_ #[22, 22] 22 #[.slice none 0 0, .slice (some ⟨w9.heap.size, 0, none⟩) 1 1]).run Try.prog (w9.alloc (.cells #[.int .i64 (k : Int)] 3)) = _ at hrun
          clear hka hg11
          go_upto_region 15 with (at_builtin; refine wpList_append_run rfl (.tmp 42) (.tmp 44) 22 rfl (.slice none 0 0) (.slice (some ⟨w9.heap.size, 0, none⟩) 1 1) rfl rfl v1 w11 (by exact hrun) ?_)
          clear hrun
          have hI11 := hI9.old hb11
          have e1 : w11.cell? ⟨w.heap.size, 0, none⟩ = some (.slice A rs.length cA) := bcells hI11.bA
          have f1 : w.heap.size < w11.heap.size := hI11.bA.lt
          clear hI11
          have hv0 : [k] = k :: vme T.vis m 0 := rfl
          rw [hv0] at hown
          clear hv0
          go_wp2_with fail
          clear e1 f1
          go_loopw [7, 48] (fun y x wr => ∃ (r : Nat) (vS : Value), r ≤ rs.length ∧ y = vS ∧ x = .int .i64 r ∧ wr.ownsRow w9.heap.size 3 1 vS (k :: vme T.vis m r).length ((k :: vme T.vis m r).map nat64) ∧ Below w9.heap.size w9 wr) (fun _ x _ => rs.length - (intOf x).toNat)
          case atStart => exact ⟨0, v1, Nat.zero_le _, rfl, rfl, hown, hb11⟩
          case round =>
            clear hown hb11
            obtain ⟨r, vS, hr, rfl, rfl, hown, hb⟩ := hrel
            have hI := hI9.old hb
            by_cases hrl : r < rs.length
            · have hr' : (r : Int) < rs.length := by omega
              have e5 : wr.cell? ⟨gV, 0, none⟩ = some (.slice (some ⟨gv, 0, none⟩) rs.length rs.length) := bcells hI.bV
              have f5 : gV < wr.heap.size := hI.bV.lt
              have f6 : gv < wr.heap.size := hI.rV.lt
              have v0 : wr.cell? ⟨gv, r, none⟩ = some (.bool (T.vis r)) := (hI.rV.cell r).trans (rng_at hrl)
              cases hv : T.vis r
              · rw [hv] at v0
                have Hv : Hid (vme T.vis m (r + 1) = vme T.vis m r) := by unfold Hid; rw [vme, if_neg (by rw [hv]; simp), List.append_nil]
                clear hv
                go_wp2_with fail
                go_roundw
                case rel => exact ⟨r + 1, _, by omega, rfl, by go_num, by rw [Hv.out]; exact hown, hb⟩
                case measure => simp [intOf]; omega
              · rw [hv] at v0
                have Hv : Hid (k :: vme T.vis m (r + 1) = (k :: vme T.vis m r) ++ m r) := by unfold Hid; rw [vme, if_pos hv]; rfl
                have hbd := vme_bd (V := T.vis) (m := m) (k := r) fun p hp => by
                  have h1 := (HO.out.ok p (by omega) rfl).2.2
                  have h2 := capR_bd (HR.out p (by omega))
                  omega
                have hbd2 : (m r).length ≤ 64 := by
                  have h1 := (HO.out.ok r hrl rfl).2.2
                  have h2 := capR_bd (HR.out r hrl)
                  omega
                have e4 : wr.cell? ⟨gM, 0, none⟩ = some (.slice (some ⟨gm, 0, none⟩) rs.length rs.length) := bcells hI.bM
                have f4 : gM < wr.heap.size := hI.bM.lt
                have f7 : gm < wr.heap.size := hI.rM.lt
                have hor := hI.own r hrl
                rw [show T.mem r = m r by rw [HTm.out]] at hor
                obtain ⟨Am, cm, hfm, hrd, -⟩ := own_enc hor
                have m0 : wr.cell? ⟨gm, r, none⟩ = some (.slice Am (m r).length cm) := by rw [← hfm]; exact (hI.rM.cell r).trans (rng_at hrl)
                obtain ⟨v2, w12, hrun, hown2, hg2⟩ := app_nat (c := cm) hown hrd (by simp; omega) hb.size
                have hb2 : Below w9.heap.size w9 w12 := hb.grown hg2 hb.size fun j hj => (hown.lt j hj).1
                rw [← Hv.out] at hown2
                clear hv hor hfm hg2 hrd hown
                go_wp2_with (at_builtin; refine wpList_append_run rfl (.tmp 55) (.tmp 59) 22 rfl _ (.slice Am (m r).length cm) rfl rfl v2 w12 (by exact hrun) ?_)
                go_roundw
                case rel => exact ⟨r + 1, v2, by omega, rfl, by go_num, hown2, hb2⟩
                case measure => simp [intOf]; omega
            · obtain rfl : r = rs.length := by omega
              have hbd := vme_bd (V := T.vis) (m := m) (k := rs.length) fun p hp => by
                have h1 := (HO.out.ok p (by omega) rfl).2.2
                have h2 := capR_bd (HR.out p (by omega))
                omega
              obtain ⟨g, c, rfl, hgb, hsort⟩ := sort_own hown (by simp) (by simp; omega)
              have Hsort := Lib.hid hsort
              clear hsort hown
              have hlen : (((k :: vme T.vis m rs.length).map fun x : Nat => (x : Int)).mergeSort fun x y => decide (x ≤ y)).length = (k :: vme T.vis m rs.length).length := by rw [List.length_mergeSort, List.length_map]
              have Hlen := Lib.hid hlen
              clear hlen
              go_wp2_with fail
              refine Hsort.out.mono ?_
              rintro e w12 ⟨rfl, hown, hg12⟩
              have hb12 : Below w.heap.size w w12 := (hI9.bel.trans (hb.mono hbs)).grown hg12 (Nat.le_trans hbs hb.size) fun j hj => by cases hj; omega
              clear hI hI9 hb
              go_wp2_with fail
              go_ret3
              refine .short HC.out (((k :: vme T.vis m rs.length).map fun x : Nat => (x : Int)).mergeSort fun x y => decide (x ≤ y)) (some ⟨g, 0, none⟩) c ?_ (RdI.own hown) (HO.out.fai hlt HF.out (chk_two HC.out) HSQ.out _ (List.mergeSort_perm _ _) (sorted_gi _)) (by rw [Hlen.out]; simp; omega) hb12
              rw [Hlen.out]; rfl
        · have hS : Suc rs.length ns.length (suR rs ns) (capR rs) ⟨fun _ => false, m, q⟩ k T := by simpa using hST
          clear hST
          have HO2 := Lib.hid (HO.out.suc hS)
          have hI10 := hI9.drop
          clear hI9 hS
          go_wp2_with fail
          go_roundw
          case rel => exact ⟨k + 1, T.mem, T.rm, hd9, by omega, rfl, by go_num, HO2.out, ⟨hI10.bA, hI10.bN, hI10.bR, hI10.bM, hI10.bV, hI10.bF, hI10.rM, hI10.rQ, hI10.own, hI10.apart, hI10.dis, hI10.one, hI10.low, hI10.bel⟩⟩
          case measure => simp [intOf]; omega
      · obtain rfl : k = ns.length := by omega
        have e2 : wr.cell? ⟨gN, 0, none⟩ = some (.slice B ns.length cB) := bcells hI.bN
        have f2 : gN < wr.heap.size := hI.bN.lt
        have e3 : wr.cell? ⟨gR, 0, none⟩ = some (.slice (some ⟨gq, 0, none⟩) ns.length ns.length) := bcells hI.bR
        have f3 : gR < wr.heap.size := hI.bR.lt
        have hq := hO.done HC.out HSQ.out
        have hrq : RdI wr .i64 (some ⟨gq, 0, none⟩) (rmL q ns.length) := RdI.bk hI.rQ (by unfold rmL rng; rw [List.map_map]; rfl)
        have hbel := hI.bel
        have has := assign_any rs ns v (rmL q ns.length) A B (some ⟨gq, 0, none⟩) cA cB ns.length wr HL1.out HL2.out (by rw [rmL_len]; exact HL2.out) (HA.out.old hbel) (HB.out.old hbel) hrq
        rw [hq, rmL_len] at has
        have Has := Lib.hid has
        have Hq := Lib.hid hq
        clear hI hO has hq hrq
        go_wp2_with fail
        refine Has.out.mono ?_
        rintro e w7 ⟨A7, c7, rfl, hr7, ha7, hf7, hb7⟩
        have hb8 := bl_trans hbel hb7
        simp only [asl_len]
        clear hb7 e1 e2 e3
        go_wp2_with fail
        go_ret3
        exact .all HC.out (rmL q ns.length) Hq.out (rmL_len _ _) A7 c7 rfl hr7 hb8
  · have t : (chk rs ns v != 0) = true := by rw [bne_iff_ne]; exact hc
    have HC := Lib.hid hc
    clear hc
    have HE : Hid (chk rs ns v = chk rs ns v) := rfl
    obtain ⟨x, hx⟩ : ∃ x, x = chk rs ns v := ⟨_, rfl⟩
    have HX := Lib.hid hx
    rw [← hx] at HCK t
    clear hx
    go_enter Try.func36, Try.ntmps36
    go_wp2_with fail
    refine (HCK.out _ (by (repeat (first | with_reducible exact Below.refl _ _ | with_reducible refine bl_drewN ?_ _ | with_reducible refine Below.drew ?_ | with_reducible refine bl_alloc ?_ _ | with_reducible refine Below.alloc ?_ (by first | omega | (simp; done) | (simp; omega)) _ | with_reducible refine Below.setCell ?_ (by first | omega | (simp; done) | (simp; omega)) _ | with_reducible assumption)))).mono ?_
    rintro e w1 ⟨rfl, hb1⟩
    have hc1 := bl_trans hb0 hb1
    go_wp2_with fail
    go_ret3
    refine .bad HC.out ?_ hc1
    rw [← HX.out]; rfl
end Go.Proofs.Ytcidpgjeddogmaa.Pl
