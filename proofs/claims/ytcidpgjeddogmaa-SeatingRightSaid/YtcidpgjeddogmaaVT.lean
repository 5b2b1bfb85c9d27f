/- Walk: augment, the function within Place that calls itself. -/
import Derived.Test.YtcidpgjeddogmaaVS
import Derived.WalkKit
import Derived.WalkSpells
import Derived.WalkLawsBesides
import Derived.Deep.QuietTactic
import Derived.BigQuiet
import Derived.Deep.Draws
import Derived.Deep.AppendLies
import Derived.Laws.OwnMore
import Derived.Laws.BytesArg
import Derived.Lib.Hide
import Derived.Deep.LoopGhost
import Derived.StillTailTactics
import Derived.Deep.CutBlock
import Derived.Deep.RegionLaw
namespace Go.Proofs.Ytcidpgjeddogmaa.Pl
open Go.RowKit
open Go.Proofs.Ytcidpgjeddogmaa.Mw
open Go.Proofs.Ytcidpgjeddogmaa.St
set_option linter.unusedVariables false
set_option linter.unusedSimpArgs false

/-- What augment answers. -/
def AugP (rs : List Rm) (ns : List Nd) (sA sB : Value) (cq : Nat) (w0 : World) (K : Bx) (S : Sx) (i : Nat) (e : Ending) (w' : World) : Prop :=
  ∃ (b : Bool) (T : Sx), e = .returned (.bool b) ∧ Inv rs.length ns.length sA sB cq w0 K w' T ∧ if b = true then Suc rs.length ns.length (suR rs ns) (capR rs) S i T else Fai rs.length (suR rs ns) (capR rs) S i T
theorem augp_t {rs : List Rm} {ns : List Nd} {sA sB : Value} {cq : Nat} {w0 : World} {K : Bx} {S T : Sx} {i : Nat} {hd : Nat → Value} {w' : World} (h : InvH rs.length ns.length sA sB cq w0 K hd w' T) (h2 : Suc rs.length ns.length (suR rs ns) (capR rs) S i T) : AugP rs ns sA sB cq w0 K S i (.returned (.bool true)) w' := ⟨true, T, rfl, ⟨hd, h⟩, h2⟩
theorem augp_f {rs : List Rm} {ns : List Nd} {sA sB : Value} {cq : Nat} {w0 : World} {K : Bx} {S T : Sx} {i : Nat} {hd : Nat → Value} {w' : World} (h : InvH rs.length ns.length sA sB cq w0 K hd w' T) (h2 : Fai rs.length (suR rs ns) (capR rs) S i T) : AugP rs ns sA sB cq w0 K S i (.returned (.bool false)) w' := ⟨false, T, rfl, ⟨hd, h⟩, h2⟩
theorem hd_form {w : World} {B : Nat} {T : TypeId} {v : Value} {l : List Nat} (h : w.ownsRow B T 1 v l.length (l.map nat64)) : ∃ A c, v = .slice A l.length c := by
  rcases h.2 with ⟨rfl, h0⟩ | ⟨g, cap, cur, rfl, _⟩
  · exact ⟨none, 0, by rw [h0]⟩
  · exact ⟨_, _, rfl⟩
theorem hd_cell {w : World} {B : Nat} {T : TypeId} {v : Value} {l : List Nat} (h : w.ownsRow B T 1 v l.length (l.map nat64)) {k : Nat} (hk : k < l.length) : ∃ g c, v = .slice (some ⟨g, 0, none⟩) l.length c ∧ w.cell? ⟨g, k, none⟩ = some (.int .i64 ((l.getD k 0 : Nat) : Int)) ∧ g < w.heap.size ∧ ∀ o, w.frozen? ⟨g, o, none⟩ = false := by
  obtain ⟨g, cap, hv, _, hlt⟩ := h.form (by omega)
  refine ⟨g, cap, hv, ?_, hlt, own_frozen (by rw [hv] at h; exact h) _ rfl⟩
  have hv2 := h
  rw [hv] at hv2
  rw [hv2.cellAt k (by omega), List.getElem?_map, List.getD_eq_getElem?_getD, List.getElem?_eq_getElem hk]
  rfl
set_option maxHeartbeats 4000000 in
set_option maxRecDepth 100000 in
theorem aug_any (rs : List Rm) (ns : List Nd) (A B : Option Addr) (cA cB cq : Nat) (w0 : World) (hA : RdRm w0 A rs) (hB : RdNd w0 B ns) (hrl : rs.length ≤ 8) (hnl : ns.length ≤ 60) (hrm : Hid (∀ k, k < rs.length → rmB (ge rs k) = true)) (K : Bx) :
    ∀ (n : Nat) (S : Sx) (i : Nat) (w : World), unv rs.length S.vis < n → Okv rs.length ns.length (suR rs ns) (capR rs) S.vis S.mem S.rm → i < ns.length → ¬ Is rs.length S.vis S.mem i → Inv rs.length ns.length (.slice A rs.length cA) (.slice B ns.length cB) cq w0 K w S →
      Calls Try.prog 51 #[.int .i64 (i : Int), .pointer (some ⟨K.gA, 0, none⟩), .pointer (some ⟨K.gV, 0, none⟩), .pointer (some ⟨K.gN, 0, none⟩), .pointer (some ⟨K.gM, 0, none⟩), .pointer (some ⟨K.gR, 0, none⟩), .pointer (some ⟨K.gF, 0, none⟩)] w
        (AugP rs ns (.slice A rs.length cA) (.slice B ns.length cB) cq w0 K S i) := by
  have HA := Lib.hid hA
  have HB := Lib.hid hB
  clear hA hB
  intro n
  induction n with
  | zero => intro S i w hn; exact absurd hn (Nat.not_lt_zero _)
  | succ n ih =>
    have IH := Lib.hid ih
    clear ih
    intro S i w hn hok hi hni hI
    have HN := Lib.hid hn
    have Hok := Lib.hid hok
    have Hni := Lib.hid hni
    obtain ⟨hd0, hI0⟩ := hI
    have a0 := bcells hI0.bA
    have g0 := hI0.bA.lt
    clear hn hok hni
    have hi' : (i : Int) < ns.length := by omega
    have hii0 : (0 : Int) ≤ i := by omega
    obtain ⟨i0, hi0, hz0, hz1, hz2⟩ := info_parts infoInt
    go_enter Try.func51, Try.ntmps51
    go_wp2_with fail
    clear a0
    go_loopw [13] (fun x wr => ∃ (k : Nat) (T : Sx) (hd : Nat → Value), k ≤ rs.length ∧ x = .int .i64 k ∧ Lo rs.length (suR rs ns) (capR rs) S i k T ∧ InvH rs.length ns.length (.slice A rs.length cA) (.slice B ns.length cB) cq w0 K hd wr T) (fun x _ => rs.length - (intOf x).toNat)
    case atStart => exact ⟨0, S, hd0, Nat.zero_le _, rfl, Lo.zero, hI0⟩
    case round =>
      clear hI0
      obtain ⟨k, T, hd, hk, rfl, hL, hI⟩ := hrel
      have e1 := bcells hI.bA
      have e2 := bcells hI.bN
      have e3 := bcells hI.bR
      have e4 := bcells hI.bM
      have e5 := bcells hI.bV
      have f1 := hI.bA.lt
      have f2 := hI.bN.lt
      have f3 := hI.bR.lt
      have f4 := hI.bM.lt
      have f5 := hI.bV.lt
      by_cases hlt : k < rs.length
      · have hk' : (k : Int) < rs.length := by omega
        have hk0 : (0 : Int) ≤ k := by omega
        have v0 : wr.cell? ⟨K.v, k, none⟩ = some (.bool (T.vis k)) := (hI.rV.cell k).trans (rng_at hlt)
        have f6 := hI.rV.lt
        cases hv : T.vis k
        · rw [hv] at v0
          obtain ⟨b, off, rfl, hbl, c0, c1, c2⟩ := rm_at (HA.out.old hI.bel) k hlt
          obtain ⟨b', off', rfl, hbl', d0, d1⟩ := nd_at (HB.out.old hI.bel) i hi
          cases hs : sut (ge rs k) (ge ns i)
          · have Hv := Lib.hid hv
            have Hs := Lib.hid hs
            have hs2 := hs
            clear hv
            go_wp2_with fail
            refine Mm.region_ext (by kernel_rfl) (by kernel_rfl) ?_; (repeat (first | go_big_quiet_step ((go_at_call 23; exact Mm.calls_ext (suits_any (ge rs k) (ge ns i) _))) | quiet_step ((go_at_call 23; exact Mm.calls_ext (suits_any (ge rs k) (ge ns i) _))))); refine wpQuiet_nil ?_
            intro w1 hb1
            go_wp2_with fail
            go_roundw
            case rel => exact ⟨k + 1, T, hd, by omega, by go_num, hL.skip (.inr Hs.out), hI.old hb1⟩
            case measure => simp [intOf]; omega
          · have Hv := Lib.hid hv
            have Hs := Lib.hid hs
            have hs2 := hs
            obtain ⟨q1, q2, q3⟩ := capR_bd (hrm.out k hlt)
            have hrm2 := (rmB_iff _).1 (hrm.out k hlt)
            have hrm3 : 0 ≤ (ge rs k).r ∧ (ge rs k).r ≤ 100 := by omega
            have hrm4 : 0 ≤ (ge rs k).c ∧ (ge rs k).c ≤ 100 := by omega
            have HSQ := Lib.hid (seats_any (ge rs k) hrm3 hrm4)
            have HQ : Hid (((capR rs k : Nat) : Int) = (ge rs k).r * (ge rs k).c) := q3
            clear hv hrm2 hrm3 hrm4
            go_wp2_with fail
            refine Mm.region_ext (by kernel_rfl) (by kernel_rfl) ?_; (repeat (first | go_big_quiet_step ((go_at_call 23; exact Mm.calls_ext (suits_any (ge rs k) (ge ns i) _))) | quiet_step ((go_at_call 23; exact Mm.calls_ext (suits_any (ge rs k) (ge ns i) _))))); refine wpQuiet_nil ?_
            intro w1 hb1
            have hI0 := hI.old hb1
            have hI1 := hI0.see k
            have x5 := bcells hI0.bV
            have x6 : w1.cell? ⟨K.v, k, none⟩ = some (.bool false) := by have := (hI0.rV.cell k).trans (rng_at hlt); rw [Hv.out] at this; exact this
            have y5 := hI0.bV.lt
            have y6 := hI0.rV.lt
            have z6 := hI0.rV.frozen k
            clear hI hI0 hs2 hs hb1 v0 e1 e2 e3 e4 e5 f1 f2 f3 f4 f5 f6 c0 c1 c2 d0 d1
            go_wp2_with fail
            generalize w1.setCell ⟨K.v, k, none⟩ (.bool true) = w2 at hI1 ⊢
            clear x5 x6 y5 y6 z6
            have e1 := bcells hI1.bA
            have e4 := bcells hI1.bM
            have f1 := hI1.bA.lt
            have f4 := hI1.bM.lt
            have f6 := hI1.rM.lt
            obtain ⟨c0, c1, c2, hbl2⟩ : w2.cell? ⟨b, off + k * 3, none⟩ = some (.int .i64 (ge rs k).r) ∧ w2.cell? ⟨b, off + k * 3 + 1, none⟩ = some (.int .i64 (ge rs k).c) ∧ w2.cell? ⟨b, off + k * 3 + 2, none⟩ = some (.int .i64 (ge rs k).o) ∧ b < w2.heap.size := by
              obtain ⟨b1, o1, e, x3, x0, x1, x2⟩ := rm_at (HA.out.old hI1.bel) k hlt
              cases e
              exact ⟨x0, x1, x2, x3⟩
            obtain ⟨Am, cm, hfm⟩ := hd_form (hI1.own k hlt)
            have hml : (T.see k).mem k = T.mem k := rfl
            rw [hml] at hfm
            have m0 : w2.cell? ⟨K.m, k, none⟩ = some (.slice Am (T.mem k).length cm) := by rw [← hfm]; exact (hI1.rM.cell k).trans (rng_at hlt)
            have hmq : (T.mem k).length ≤ capR rs k := by
              have := (Hok.out k hlt (hL.vis k Hv.out)).2.2
              rw [hL.m]; exact this
            have hmq2 : ((T.mem k).length : Int) ≤ 64 := by have := HQ.out; omega
            generalize hq : (ge rs k).r * (ge rs k).c = q at HSQ HQ q1 q2
            by_cases hfree : (T.mem k).length < capR rs k
            · have t1 : decide (((T.mem k).length : Int) < q) = true := by have := HQ.out; simp; omega
              have Hf := Lib.hid hfree
              clear hfree hq hmq
              refine Mm.region_ext (by kernel_rfl) (by kernel_rfl) ?_; (repeat (first | go_big_quiet_step ((go_at_call 44; exact Mm.calls_ext (HSQ.out _))) | quiet_step ((go_at_call 44; exact Mm.calls_ext (HSQ.out _))))); refine wpQuiet_nil ?_
              intro w3 hb3
              have hI3 := hI1.old hb3
              clear e1 e4 f1 f4 f6 c0 c1 c2 hbl2 m0
              have e4 := bcells hI3.bM
              have f4 := hI3.bM.lt
              have f6 := hI3.rM.lt
              have z6 := hI3.rM.frozen k
              have m0 : w3.cell? ⟨K.m, k, none⟩ = some (.slice Am (T.mem k).length cm) := by rw [← hfm]; exact (hI3.rM.cell k).trans (rng_at hlt)
              have hown : w3.ownsRow w0.heap.size 3 1 (.slice Am (T.mem k).length cm) (T.mem k).length ((T.mem k).map nat64) := by rw [← hfm]; exact hI3.own k hlt
              have hbs : w0.heap.size ≤ w3.heap.size := hI3.bel.size
              go_wp2_with fail
              go_region_law (first
                | (refine step_append_lies _ (by rfl) (.tmp 51) (.tmp 53) 22 (by rfl) w0.heap.size 3 i0 (.int .i64 0) 1 8 Try.underlying22 hi0 hz0 hz1 hz2 rfl (by decide) (.slice Am (T.mem k).length cm) (T.mem k).length ((T.mem k).map nat64) (by rfl) (by first | exact hown.alloc _ | exact hown.drew.alloc _) ⟨w3.heap.size, 0, none⟩ 1 1 [.int .i64 (i : Int)] (by rfl) rfl (one_new _ _ _ (by simp)) (by simp [Value.oneCell']) (by decide) (by simp only [maxLen]; omega) (by omega) (by simp; omega) _ rfl ?_
                   intro g4 cap4 w4 hown4 hgrow4 hat4 hlt4
                   have hI4' : InvH rs.length ns.length (.slice (some ⟨b, off, none⟩) rs.length cA) (.slice (some ⟨b', off', none⟩) ns.length cB) cq w0 K hd (w3.drew.alloc (.cells #[.int .i64 (i : Int)] 3)) (T.see k) := hI3.old (by (repeat (first | with_reducible exact Below.refl _ _ | with_reducible refine bl_drewN ?_ _ | with_reducible refine Below.drew ?_ | with_reducible refine bl_alloc ?_ _ | with_reducible refine Below.alloc ?_ (by first | omega | (simp; done) | (simp; omega)) _ | with_reducible refine Below.setCell ?_ (by first | omega | (simp; done) | (simp; omega)) _ | with_reducible assumption)))
                   have e4' := bcells (hI4'.bM.grown hgrow4 (by have := hI4'.gr hlt (b := K.gM) (by simp [Bx.all]); rw [hfm] at this; exact this))
                   have m4' : w4.cell? ⟨K.m, k, none⟩ = some (.slice Am (T.mem k).length cm) := by
                     have := (hI4'.rM.grown hgrow4 (by have := hI4'.gr hlt (b := K.m) (by simp [Bx.all]); rw [hfm] at this; exact this))
                     rw [← hfm]; exact (this.cell k).trans (rng_at hlt)
                   have z4' : w4.frozen? ⟨K.m, k, none⟩ = false := (hI4'.rM.grown hgrow4 (by have := hI4'.gr hlt (b := K.m) (by simp [Bx.all]); rw [hfm] at this; exact this)).frozen k
                   have q4 : K.gM < w4.heap.size := Nat.lt_of_lt_of_le hI4'.bM.lt hgrow4.size
                   have q5 : K.m < w4.heap.size := Nat.lt_of_lt_of_le hI4'.rM.lt hgrow4.size))
              all_goals
                have hI5 := hI4'.appm (i := i) hlt (by rw [show (T.see k).mem k = T.mem k from rfl]; exact hown4) (by rw [hfm]; exact hgrow4) (by rw [hfm]; exact hat4)
                rw [show (T.see k).mem k = T.mem k from rfl] at hI5
                clear hI4' hI3 hgrow4 hown4 hat4 e4' m4' z4' q4 q5 hlt4 e4 f4 f6 z6 m0 hown hbs hb3
                generalize w4.setCell ⟨K.m, k, none⟩ (.slice (some ⟨g4, 0, none⟩) ((T.mem k).length + 1) cap4) = w5 at hI5 ⊢
                have e3 := bcells hI5.bR
                have f3 := hI5.bR.lt
                have f7 := hI5.rQ.lt
                have z7 := hI5.rQ.frozen i
                have q0 : w5.cell? ⟨K.q, i, none⟩ = some (.int .i64 (T.rm i)) := (hI5.rQ.cell i).trans (rng_at hi)
                go_wp2_with fail
                go_ret
                exact augp_t (hI5.putq i (k : Int)) (Lo.app Hok.out hi Hni.out hL hlt Hv.out Hs.out (by rw [← hL.m]; exact Hf.out))
            · have t1 : decide (((T.mem k).length : Int) < q) = false := by have := HQ.out; simp; omega
              have Hf : Hid ((T.mem k).length = capR rs k) := by unfold Hid; omega
              clear hfree hq hmq
              refine Mm.region_ext (by kernel_rfl) (by kernel_rfl) ?_; (repeat (first | go_big_quiet_step ((go_at_call 44; exact Mm.calls_ext (HSQ.out _))) | quiet_step ((go_at_call 44; exact Mm.calls_ext (HSQ.out _))))); refine wpQuiet_nil ?_
              intro w3 hb3
              have hI3 := hI1.old hb3
              clear e1 e4 f1 f4 f6 c0 c1 c2 hbl2 m0
              have e4 := bcells hI3.bM
              have f4 := hI3.bM.lt
              have f6 := hI3.rM.lt
              have hmS : (T.mem k).length = (S.mem k).length := by rw [hL.m]
              have m0 : w3.cell? ⟨K.m, k, none⟩ = some (.slice Am (S.mem k).length cm) := by rw [← hmS, ← hfm]; exact (hI3.rM.cell k).trans (rng_at hlt)
              have HLi := hL.see Hv.out (by rw [← hL.m]; exact Hf.out)
              have HmS := Lib.hid hmS
              have hm64 : ((S.mem k).length : Int) ≤ 64 := by omega
              clear hmS
              go_wp2_with fail
              clear e4 f4 f6 m0 hb3
              go_loopw [65] (fun x wr => ∃ (j : Nat) (U : Sx) (hd : Nat → Value), j ≤ (S.mem k).length ∧ x = .int .i64 j ∧ Li rs.length (suR rs ns) (capR rs) S i k j U ∧ InvH rs.length ns.length (.slice (some ⟨b, off, none⟩) rs.length cA) (.slice (some ⟨b', off', none⟩) ns.length cB) cq w0 K hd wr U) (fun x _ => (S.mem k).length - (intOf x).toNat)
              case atStart => exact ⟨0, _, hd, Nat.zero_le _, rfl, HLi, hI3⟩
              case round =>
                clear hI1 hI3 HLi hfm
                obtain ⟨j, U, hd', hj, rfl, hLi, hI⟩ := hrel
                by_cases hjl : j < (S.mem k).length
                · have hj' : (j : Int) < (S.mem k).length := by omega
                  have hj0 : (0 : Int) ≤ j := by omega
                  have e4 := bcells hI.bM
                  have f4 := hI.bM.lt
                  have f6 := hI.rM.lt
                  have e6 : wr.cell? ⟨K.gF, 0, none⟩ = some (.func (.func 51) #[] #[.pointer (some ⟨K.gA, 0, none⟩), .pointer (some ⟨K.gV, 0, none⟩), .pointer (some ⟨K.gN, 0, none⟩), .pointer (some ⟨K.gM, 0, none⟩), .pointer (some ⟨K.gR, 0, none⟩), .pointer (some ⟨K.gF, 0, none⟩)]) := bcells hI.bF
                  have f5 := hI.bF.lt
                  have hUm : U.mem k = S.mem k := by rw [hLi.m]
                  obtain ⟨g, c, hgv, x0, x1, x2⟩ := hd_cell (hI.own k hlt) (k := j) (by rw [hUm]; exact hjl)
                  rw [hUm] at hgv x0
                  have m0 : wr.cell? ⟨K.m, k, none⟩ = some (.slice (some ⟨g, 0, none⟩) (S.mem k).length c) := by rw [← hgv]; exact (hI.rM.cell k).trans (rng_at hlt)
                  obtain ⟨p1, p2, p3⟩ := hLi.pre Hok.out hlt hjl
                  have P1 := Lib.hid p1
                  have P3 := Lib.hid p3
                  have P4 : Hid (unv rs.length U.vis < n) := by
                    have := hLi.less hlt
                    have := HN.out
                    unfold Hid; omega
                  have HU := Lib.hid hUm
                  have Hgv := Lib.hid hgv
                  clear p1 p3 hUm hgv
                  generalize hxe : (S.mem k).getD j 0 = x at x0 p2 P3
                  have Hxe := Lib.hid hxe
                  clear hxe
                  go_wp2_with fail
                  go_still_tail 8, (by kernel_rfl)
                  change wpList _ _ _ _ _ wr.drew
                  generalize hWd : wr.drew = w5
                  have hI5 : InvH rs.length ns.length (.slice (some ⟨b, off, none⟩) rs.length cA) (.slice (some ⟨b', off', none⟩) ns.length cB) cq w0 K hd' w5 U := by rw [← hWd]; exact hI.old (by (repeat (first | with_reducible exact Below.refl _ _ | with_reducible refine bl_drewN ?_ _ | with_reducible refine Below.drew ?_ | with_reducible refine bl_alloc ?_ _ | with_reducible refine Below.alloc ?_ (by first | omega | (simp; done) | (simp; omega)) _ | with_reducible refine Below.setCell ?_ (by first | omega | (simp; done) | (simp; omega)) _ | with_reducible assumption)))
                  clear hWd hI e4 f4 f6 e6 f5 x0 x1 x2 m0
                  go_wp2_with fail
                  refine (IH.out U x _ P4.out P1.out p2 P3.out ⟨hd', hI5⟩).mono ?_
                  rintro e w6 ⟨bo, V, rfl, ⟨hd6, hI6⟩, hST⟩
                  clear hI5
                  cases bo
                  · have HST : Fai rs.length (suR rs ns) (capR rs) U x V := by simpa using hST
                    clear hST
                    go_wp2_with fail
                    go_roundw
                    case rel => exact ⟨j + 1, V, hd6, by omega, by go_num, hLi.step (by rw [Hxe.out]; exact HST), hI6⟩
                    case measure => simp [intOf]; omega
                  · have HST : Suc rs.length ns.length (suR rs ns) (capR rs) U x V := by simpa using hST
                    clear hST
                    have hVm : V.mem k = S.mem k := by rw [HST.a k hlt hLi.g1, HU.out]
                    have e4 := bcells hI6.bM
                    have f4 := hI6.bM.lt
                    have f6 := hI6.rM.lt
                    obtain ⟨g6, c6, hgv6, x0, x1, x2⟩ := hd_cell (hI6.own k hlt) (k := j) (by rw [hVm]; exact hjl)
                    rw [hVm] at hgv6 x0
                    have m0 : w6.cell? ⟨K.m, k, none⟩ = some (.slice (some ⟨g6, 0, none⟩) (S.mem k).length c6) := by rw [← hgv6]; exact (hI6.rM.cell k).trans (rng_at hlt)
                    have z8 := x2 j
                    have hI7 := hI6.subm (k := j) (i := i) hlt hgv6
                    rw [hVm] at hI7
                    have HV := Lib.hid hVm
                    have HST' := Lib.hid HST
                    clear hI6 x2 hgv6 hVm HST
                    go_upto_region 15 with fail
                    change InvH _ _ _ _ _ _ _ _ (w6.setCell ⟨g6, j, none⟩ (.int .i64 (i : Int))) _ at hI7
                    generalize w6.setCell ⟨g6, j, none⟩ (.int .i64 (i : Int)) = w7 at hI7 ⊢
                    clear e4 f4 f6 x0 x1 m0 z8
                    have e3 := bcells hI7.bR
                    have f3 := hI7.bR.lt
                    have f7 := hI7.rQ.lt
                    have z7 := hI7.rQ.frozen i
                    have q0 : w7.cell? ⟨K.q, i, none⟩ = some (.int .i64 (V.rm i)) := (hI7.rQ.cell i).trans (rng_at hi)
                    go_wp2_with fail
                    go_ret
                    refine augp_t (hI7.putq i (k : Int)) ?_
                    have := hLi.sub Hok.out hi Hni.out hlt Hs.out hjl (by rw [Hxe.out]; exact HST'.out)
                    unfold Sx.sub at this
                    rw [HV.out] at this
                    exact this
                · obtain rfl : j = (S.mem k).length := by omega
                  go_wp2_with fail
                  go_roundw
                  case rel => exact ⟨k + 1, U, hd', by omega, by go_num, hLi.fin (Nat.le_refl _), hI⟩
                  case measure => simp [intOf]; omega
        · rw [hv] at v0
          have Hv := Lib.hid hv
          clear hv
          go_wp2_with fail
          refine Mm.region_ext (by kernel_rfl) (by kernel_rfl) ?_; (repeat (first | go_big_quiet_step (fail) | quiet_step (fail))); refine wpQuiet_nil ?_
          intro w1 hb1
          go_wp2_with fail
          go_roundw
          case rel => exact ⟨k + 1, T, hd, by omega, by go_num, hL.skip (.inl Hv.out), hI.old hb1⟩
          case measure => simp [intOf]; omega
      · obtain rfl : k = rs.length := by omega
        go_wp2_with fail
        go_ret
        exact augp_f hI hL.fai
end Go.Proofs.Ytcidpgjeddogmaa.Pl
