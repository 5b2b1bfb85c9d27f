/- Walks: Withdraw of the reference; the comparison of two schemes. -/
import Derived.Test.YtokddjohdodkmaaHK
import Derived.Deep.DeepCutAuto
import Derived.Deep.RegionLaw
import Derived.Deep.AppendLies
import Derived.WalkKit
import Derived.WalkSpells
import Derived.WalkLawsBesides
import Derived.Deep.QuietTactic
import Derived.BigQuiet
import Derived.Deep.Draws
import Derived.Deep.AppendLies
import Derived.Laws.OwnMore
import Derived.Laws.BytesArg
import Derived.Lib.Hide
import Derived.Deep.LoopGhost
import Derived.Deep.CutBlock
import Derived.Laws.MakeOwn
import Derived.RegionTactic
namespace Go.Proofs.Ytokddjohdodkmaa.Tm
open Go.RowKit Go.Proofs.Ytokddjohdodkmaa.Mw
open Go.Proofs.Ytokddjohdodkmaa.Mm (RC)
set_option linter.unusedVariables false

set_option maxHeartbeats 4000000 in
set_option maxRecDepth 100000 in
theorem rwithdraw_any (p : Pa) (s : Sc) (i m : Int) (w : World) (hp : PaOk w p) (hs : ScOk w s)  :
    Calls Try.prog 27 #[pav p, scv s, .int .i64 i, .int .i64 m] w (RetSE p s i m w) := by
  have HV := Lib.hid (show ∀ W, Below w.heap.size w W → Calls Try.prog 36 #[.agg #[.int .i64 p.c, .int .i64 p.v, .slice p.A p.l.length p.k], .agg #[.slice s.K s.ks.length s.ck, .slice s.W s.wd.length s.cw]] W fun e w' => e = .returned (.bool (sval p s)) ∧ Below W.heap.size W w' from fun W hW => rvalid_any p s W (hp.old hW) (hs.old hW))
  show Calls Try.prog 27 #[.agg #[.int .i64 p.c, .int .i64 p.v, .slice p.A p.l.length p.k], .agg #[.slice s.K s.ks.length s.ck, .slice s.W s.wd.length s.cw], .int .i64 i, .int .i64 m] w _
  have hr0 := hp.rd
  have hk0 := hs.rk
  have hw0 := hs.rw
  generalize p.A = A at hr0 HV ⊢
  generalize s.K = K at hk0 HV ⊢
  generalize s.W = Wa at hw0 HV ⊢
  have HR := Lib.hid hr0
  have HK := Lib.hid hk0
  have HW := Lib.hid hw0
  have hl := hp.len
  have hlk := hs.lk
  have hlw := hs.lw
  have HLE := Lib.hid hs.le
  clear hr0 hk0 hw0 hp hs
  have hb0 : Below w.heap.size w (((w.alloc (.cells #[.int .i64 p.c, .int .i64 p.v, .slice A p.l.length p.k] 27)).alloc (.cells #[.slice K s.ks.length s.ck, .slice Wa s.wd.length s.cw] 31)).alloc (.cells #[.slice none 0 0, .slice none 0 0] 31)) := by (repeat (first | with_reducible exact Below.refl _ _ | with_reducible refine bl_drewN ?_ _ | with_reducible refine Below.drew ?_ | with_reducible refine bl_alloc ?_ _ | with_reducible refine Below.alloc ?_ (by first | omega | (simp; done) | (simp; omega)) _ | with_reducible refine Below.setCell ?_ (by first | omega | (simp; done) | (simp; omega)) _ | with_reducible assumption))
  have B1 : Bk (((w.alloc (.cells #[.int .i64 p.c, .int .i64 p.v, .slice A p.l.length p.k] 27)).alloc (.cells #[.slice K s.ks.length s.ck, .slice Wa s.wd.length s.cw] 31)).alloc (.cells #[.slice none 0 0, .slice none 0 0] 31)) w.heap.size 27 #[.int .i64 p.c, .int .i64 p.v, .slice A p.l.length p.k] := by (repeat (first | ((with_reducible refine Bk.new' ?_); (first | rfl | (simp; done) | (simp; omega))) | with_reducible refine Bk.alloc ?_ _ | with_reducible refine Bk.drewN ?_ _ | with_reducible refine Bk.drew ?_ | with_reducible assumption))
  have B2 : Bk (((w.alloc (.cells #[.int .i64 p.c, .int .i64 p.v, .slice A p.l.length p.k] 27)).alloc (.cells #[.slice K s.ks.length s.ck, .slice Wa s.wd.length s.cw] 31)).alloc (.cells #[.slice none 0 0, .slice none 0 0] 31)) (w.heap.size + 1) 31 #[.slice K s.ks.length s.ck, .slice Wa s.wd.length s.cw] := by (repeat (first | ((with_reducible refine Bk.new' ?_); (first | rfl | (simp; done) | (simp; omega))) | with_reducible refine Bk.alloc ?_ _ | with_reducible refine Bk.drewN ?_ _ | with_reducible refine Bk.drew ?_ | with_reducible assumption))
  have B3 : Bk (((w.alloc (.cells #[.int .i64 p.c, .int .i64 p.v, .slice A p.l.length p.k] 27)).alloc (.cells #[.slice K s.ks.length s.ck, .slice Wa s.wd.length s.cw] 31)).alloc (.cells #[.slice none 0 0, .slice none 0 0] 31)) (w.heap.size + 2) 31 #[.slice none 0 0, .slice none 0 0] := by (repeat (first | ((with_reducible refine Bk.new' ?_); (first | rfl | (simp; done) | (simp; omega))) | with_reducible refine Bk.alloc ?_ _ | with_reducible refine Bk.drewN ?_ _ | with_reducible refine Bk.drew ?_ | with_reducible assumption))
  go_enter Try.func27, Try.ntmps27
  go_wp2_with fail
  refine (HV.out _ hb0).mono ?_
  rintro e w1 ⟨rfl, hb1⟩
  have hc1 := bl_trans hb0 hb1
  have C1 := B1.old hb1
  have C2 := B2.old hb1
  have C3 := B3.old hb1
  clear hb0 B1 B2 hb1 B3
  have g1 := C1.lt
  have g2 := C2.lt
  have g3 := C3.lt
  obtain ⟨c0, c1, c2⟩ := bk3' C1
  obtain ⟨⟨d0, d1⟩, -⟩ := bk2 C2
  obtain ⟨⟨r0, r1⟩, rf0, rf1⟩ := bk2 C3
  have s0 : w1.cell? ⟨w.heap.size + 1 + 1, 0, none⟩ = some (.slice none 0 0) := r0
  have s1 : w1.cell? ⟨w.heap.size + 1 + 1, 1, none⟩ = some (.slice none 0 0) := r1
  cases hv : sval p s
  · have Hz := Lib.hid (wde_1 (part := i) (kind := m) hv)
    go_wp2_with fail
    refine bodyPost_ret (v := .tuple #[scv sc0, .int .i64 1]) (by simp [results, Try.results27, go_sem, s0, s1, sc0]) rfl (ret_sc0 Hz.out (by omega) (by (repeat (first | with_reducible exact Below.refl _ _ | with_reducible refine bl_drewN ?_ _ | with_reducible refine Below.drew ?_ | with_reducible refine bl_alloc ?_ _ | with_reducible refine Below.alloc ?_ (by first | omega | (simp; done) | (simp; omega)) _ | with_reducible refine Below.setCell ?_ (by first | omega | (simp; done) | (simp; omega)) _ | with_reducible assumption))))
  have HO := Lib.hid (sval_ok hv)
  have H1 := Lib.hid (sval_ok hv).lk
  have H2 := Lib.hid (sval_ok hv).lw
  have h24 := (sval_ok hv).len
  have Hv := Lib.hid hv
  by_cases hi : ¬ (0 ≤ i ∧ i < p.l.length)
  · have Hz := Lib.hid (wde_4 (kind := m) hv hi)
    clear hv
    go_wp2_with fail
    all_goals (first | (exfalso; omega) | (refine bodyPost_ret (v := .tuple #[scv sc0, .int .i64 4]) (by simp [results, Try.results27, go_sem, s0, s1, sc0]) rfl (ret_sc0 Hz.out (by omega) (by (repeat (first | with_reducible exact Below.refl _ _ | with_reducible refine bl_drewN ?_ _ | with_reducible refine Below.drew ?_ | with_reducible refine bl_alloc ?_ _ | with_reducible refine Below.alloc ?_ (by first | omega | (simp; done) | (simp; omega)) _ | with_reducible refine Below.setCell ?_ (by first | omega | (simp; done) | (simp; omega)) _ | with_reducible assumption))))))
  replace hi := Decidable.not_not.1 hi
  obtain ⟨hi0, hi1⟩ := hi
  obtain ⟨j, rfl⟩ := Int.eq_ofNat_of_zero_le hi0
  have hj : j < p.l.length := by omega
  have t3 : decide ((j : Int) < 0) = false := decide_eq_false (by omega)
  have t4 : decide ((p.l.length : Int) ≤ (j : Int)) = false := decide_eq_false (by omega)
  have t4' : decide (p.l.length ≤ j) = false := decide_eq_false (by omega)
  cases hk : knd m
  · have Hz := Lib.hid (wde_2 hv ⟨hi0, hi1⟩ hk)
    have h4 := decide_eq_false_iff_not.1 hk
    clear hv hk
    go_wp2_with fail
    all_goals (first | (exfalso; omega) | (refine bodyPost_ret (v := .tuple #[scv sc0, .int .i64 2]) (by simp [results, Try.results27, go_sem, s0, s1, sc0]) rfl (ret_sc0 Hz.out (by omega) (by (repeat (first | with_reducible exact Below.refl _ _ | with_reducible refine bl_drewN ?_ _ | with_reducible refine Below.drew ?_ | with_reducible refine bl_alloc ?_ _ | with_reducible refine Below.alloc ?_ (by first | omega | (simp; done) | (simp; omega)) _ | with_reducible refine Below.setCell ?_ (by first | omega | (simp; done) | (simp; omega)) _ | with_reducible assumption))))))
  have Hz := Lib.hid (wde_0 hv ⟨hi0, hi1⟩ hk)
  have h4 := decide_eq_true_iff.1 hk
  have t5 : decide (m < 0) = false := decide_eq_false (by omega)
  have t6 : decide (2 < m) = false := decide_eq_false (by omega)
  clear hv hk
  have hjw : j < s.wd.length := by have := H2.out; omega
  obtain ⟨ba, boff, rfl, hbl2, -⟩ := (HW.out.old hc1) j hjw
  have HN := Lib.hid (rdi_news (HW.out.old hc1))
  obtain ⟨i0, hi0', hz0, hz1, hz2⟩ := info_parts infoInt
  go_wp2_with (at_builtin; refine wpList_append_own _ rfl (.tmp 33) (.tmp 35) 22 rfl w1.heap.size 3 i0 (.int .i64 0) 1 8 Try.underlying22 hi0' hz0 hz1 hz2 rfl (by decide) (.slice none 0 0) 0 [] rfl (World.ownsRow_nil _ _ _ _) ⟨ba, boff, none⟩ s.wd.length s.cw (s.wd.map (Value.int .i64)) rfl (by simp) HN.out (ones_int s.wd) ?c3 ?c4 ?c5 ?_)
  case c3 => simp only [maxLen]; omega
  case c4 => omega
  case c5 => omega
  intro v2 w2 hown hg _
  have hb2 : Below w1.heap.size w1 w2 := ⟨hg.os, hg.tape, hg.output, hg.size, fun i hi => hg.block i hi (by simp [Value.ownBlock])⟩
  have hown' : w2.ownsRow w1.heap.size 3 1 v2 s.wd.length (s.wd.map (Value.int .i64)) := by simpa using hown
  obtain ⟨A2, c2', rfl, hr2, ha2⟩ := own_ints hown'
  have hf2 := own_frozen hown'
  obtain ⟨b2, off2, rfl, hbl3, x2⟩ := hr2 j hjw
  have l1 := (ha2 _ rfl).1
  have y2 : w2.frozen? ⟨b2, off2 + j, none⟩ = false := hf2 _ rfl _
  have D2 := C2.old hb2
  have D3 := C3.old hb2
  have hc2 := bl_trans hc1 hb2
  have hrk := (HK.out.old hc2)
  clear hown hown' hg ha2 hf2 C1 C2 C3 c0 c1 c2 d0 d1 r0 r1 rf0 rf1 s0 s1 hc1 hb2
  obtain ⟨⟨d0, d1⟩, -⟩ := bk2 D2
  have s0 : w2.cell? ⟨w.heap.size + 1 + 1, 0, none⟩ = some (.slice none 0 0) := D3.cell 0
  have s1 : w2.cell? ⟨w.heap.size + 1 + 1, 1, none⟩ = some (.slice none 0 0) := D3.cell 1
  have sf0 : w2.frozen? ⟨w.heap.size + 1 + 1, 0, none⟩ = false := D3.frozen 0
  have sf1 : w2.frozen? ⟨w.heap.size + 1 + 1, 1, none⟩ = false := D3.frozen 1
  simp only at l1
  have n1 : b2 ≠ w.heap.size + 1 := by omega
  have n2 : b2 ≠ w.heap.size + 1 + 1 := by omega
  have n4 := n1.symm
  have n5 := n2.symm
  have q5 : (j : Int) < s.wd.length := by omega
  have Hrk := Lib.hid hrk
  have Hr2 := Lib.hid hr2
  have Hc2 := Lib.hid hc2
  clear hrk hr2 hc2
  go_wp2_with fail
  refine bodyPost_ret (v := .tuple #[scv ⟨K, s.ck, s.ks, some ⟨b2, off2, none⟩, c2', s.wd.set j m⟩, .int .i64 0]) (by simp [results, Try.results27, go_sem, s0, s1, n1, n2, n4, n5]) rfl ?_
  have kb : ∀ i, i < s.ks.length → ∀ a, (gk s.ks i).A = some a → (gk s.ks i).l.length = 0 ∨ a.block < w.heap.size := fun i hi a ha => by
    rcases Nat.eq_zero_or_pos (gk s.ks i).l.length with h | h
    · exact .inl h
    · obtain ⟨_, _, _, _, _, hr⟩ := HK.out i hi
      obtain ⟨b, off, e, hb, _⟩ := hr 0 h
      rw [e] at ha; cases ha; exact .inr hb
  have fk : ∀ (W : World) (q : Addr) (u : Value), w.heap.size ≤ q.block → RdK W K s.ks → RdK (W.setCell q u) K s.ks := fun W q u hq h i hi => by
    obtain ⟨b, off, e, hlt, hc, hr⟩ := h i hi
    obtain ⟨b', off', e', hlt', _, hr'⟩ := HK.out i hi
    have hbb : b = b' := by rw [e] at e'; cases e'; rfl
    have hne : q.block ≠ b := by omega
    refine ⟨b, off, e, by simpa [World.setCell] using hlt, (World.cell?_setCell_other _ _ _ _ (fun e2 => hne (by rw [e2]))).trans hc, fun k hk => ?_⟩
    obtain ⟨x, xo, ex, hx, hxc⟩ := hr k hk
    obtain ⟨x', xo', ex', hx', _⟩ := hr' k hk
    have hxx : x = x' := by rw [ex] at ex'; cases ex'; rfl
    have hne2 : q.block ≠ x := by omega
    exact ⟨x, xo, ex, by simpa [World.setCell] using hx, (World.cell?_setCell_other _ _ _ _ (fun e2 => hne2 (by rw [e2]))).trans hxc⟩
  refine ⟨_, by rw [Hz.out], ⟨?_, ?_, ?_, ?_, ?_⟩, ?_, ?_, ?_⟩
  · exact fk _ ⟨w.heap.size + 1 + 1, 1, none⟩ _ (by show w.heap.size ≤ w.heap.size + 1 + 1; omega) (fk _ ⟨w.heap.size + 1 + 1, 0, none⟩ _ (by show w.heap.size ≤ w.heap.size + 1 + 1; omega) (fk _ ⟨b2, off2 + j, none⟩ _ (by show w.heap.size ≤ b2; omega) Hrk.out))
  · exact ((rdi_set Hr2.out j hjw m).far (p := ⟨w.heap.size + 1 + 1, 0, none⟩) (Away.some n2) _).far (p := ⟨w.heap.size + 1 + 1, 1, none⟩) (Away.some n2) _
  · show s.ks.length ≤ 1000; omega
  · show (s.wd.set j m).length ≤ 1000; simp; omega
  · exact HLE.out
  · unfold wks; rw [if_pos Hz.out]
  · unfold wwd; rw [if_pos Hz.out]; rfl
  · exact ((Hc2.out.setCell (p := ⟨b2, off2 + j, none⟩) (by show w.heap.size ≤ b2; omega) _).setCell (p := ⟨w.heap.size + 1 + 1, 0, none⟩) (by show w.heap.size ≤ w.heap.size + 1 + 1; omega) _).setCell (p := ⟨w.heap.size + 1 + 1, 1, none⟩) (by show w.heap.size ≤ w.heap.size + 1 + 1; omega) _
set_option maxHeartbeats 2000000 in
set_option maxRecDepth 100000 in
theorem same_any (a b : Sc) (w : World) (ha : ScOk w a) (hb : ScOk w b) (hk : kls a.ks = kls b.ks) (hw : a.wd = b.wd) : Calls Try.prog 28 #[scv a, scv b] w fun e w' => e = .returned (.bool true) ∧ Below w.heap.size w w' := by
  have HI := Lib.hid (show ∀ W, Below w.heap.size w W → Calls Try.prog 18 #[.slice a.W a.wd.length a.cw, .slice b.W b.wd.length b.cw] W fun e w' => e = .returned (.bool true) ∧ Below W.heap.size W w' from fun W hW => by
    have := ints_any a.wd b.wd a.W a.cw b.W b.cw W (by have := ha.lw; omega) (by have := hb.lw; omega) (ha.rw.old hW) (hb.rw.old hW)
    rwa [decide_eq_true hw] at this)
  have HKs := Lib.hid (show ∀ i, i < a.ks.length → ∀ W, Below w.heap.size w W → Mm.RC 18 #[kv (gk a.ks i), kv (gk b.ks i)] W (.bool true) from fun i hi W hW => Mm.RC.of fun V hV => by
    have hib : i < b.ks.length := by have := (kls_at hk).1; omega
    obtain ⟨_, _, _, _, _, r1⟩ := ha.rk i hi
    obtain ⟨_, _, _, _, _, r2⟩ := hb.rk i hib
    have := ints_any (gk a.ks i).l (gk b.ks i).l (gk a.ks i).A (gk a.ks i).c (gk b.ks i).A (gk b.ks i).c V (by have := ha.le i hi; omega) (by have := hb.le i hib; omega) (r1.old (bl_trans hW hV)) (r2.old (bl_trans hW hV))
    rwa [decide_eq_true ((kls_at hk).2 i)] at this)
  show Calls Try.prog 28 #[.agg #[.slice a.K a.ks.length a.ck, .slice a.W a.wd.length a.cw], .agg #[.slice b.K b.ks.length b.ck, .slice b.W b.wd.length b.cw]] w _
  have r1 := ha.rk
  have r2 := hb.rk
  have la := ha.lk
  have lb := hb.lk
  have lwa := ha.lw
  have lwb := hb.lw
  have hab := (kls_at hk).1
  generalize a.K = K at r1 HI ⊢
  generalize b.K = K' at r2 HI ⊢
  generalize a.W = Wa at HI ⊢
  generalize b.W = Wb at HI ⊢
  have H1 := Lib.hid r1
  have H2 := Lib.hid r2
  have Hab := Lib.hid hab
  have t1 : ((a.ks.length : Int) != (b.ks.length : Int)) = false := by simp [hab]
  have t1' : (a.ks.length != b.ks.length) = false := by simp [hab]
  clear r1 r2 ha hb hk hw hab
  have hb0 : Below w.heap.size w ((w.alloc (.cells #[.slice K a.ks.length a.ck, .slice Wa a.wd.length a.cw] 31)).alloc (.cells #[.slice K' b.ks.length b.ck, .slice Wb b.wd.length b.cw] 31)) := by (repeat (first | with_reducible exact Below.refl _ _ | with_reducible refine bl_drewN ?_ _ | with_reducible refine Below.drew ?_ | with_reducible refine bl_alloc ?_ _ | with_reducible refine Below.alloc ?_ (by first | omega | (simp; done) | (simp; omega)) _ | with_reducible refine Below.setCell ?_ (by first | omega | (simp; done) | (simp; omega)) _ | with_reducible assumption))
  have B1 : Bk ((w.alloc (.cells #[.slice K a.ks.length a.ck, .slice Wa a.wd.length a.cw] 31)).alloc (.cells #[.slice K' b.ks.length b.ck, .slice Wb b.wd.length b.cw] 31)) w.heap.size 31 #[.slice K a.ks.length a.ck, .slice Wa a.wd.length a.cw] := by (repeat (first | ((with_reducible refine Bk.new' ?_); (first | rfl | (simp; done) | (simp; omega))) | with_reducible refine Bk.alloc ?_ _ | with_reducible refine Bk.drewN ?_ _ | with_reducible refine Bk.drew ?_ | with_reducible assumption))
  have B2 : Bk ((w.alloc (.cells #[.slice K a.ks.length a.ck, .slice Wa a.wd.length a.cw] 31)).alloc (.cells #[.slice K' b.ks.length b.ck, .slice Wb b.wd.length b.cw] 31)) (w.heap.size + 1) 31 #[.slice K' b.ks.length b.ck, .slice Wb b.wd.length b.cw] := by (repeat (first | ((with_reducible refine Bk.new' ?_); (first | rfl | (simp; done) | (simp; omega))) | with_reducible refine Bk.alloc ?_ _ | with_reducible refine Bk.drewN ?_ _ | with_reducible refine Bk.drew ?_ | with_reducible assumption))
  go_enter Try.func28, Try.ntmps28
  go_wp2_with fail
  refine (HI.out _ hb0).mono ?_
  rintro e w1 ⟨rfl, hb1⟩
  have C1 := B1.old hb1
  have C2 := B2.old hb1
  have hc1 := bl_trans hb0 hb1
  clear hb0 hb1 B1 B2 HI
  go_wp2_with fail
  go_loopw [5] (fun i wr => ∃ j : Nat, j ≤ a.ks.length ∧ i = .int .i64 j ∧ Bk wr w.heap.size 31 #[.slice K a.ks.length a.ck, .slice Wa a.wd.length a.cw] ∧ Bk wr (w.heap.size + 1) 31 #[.slice K' b.ks.length b.ck, .slice Wb b.wd.length b.cw] ∧ Below w.heap.size w wr) (fun i _ => a.ks.length - (intOf i).toNat)
  case atStart => exact ⟨0, by omega, rfl, C1, C2, hc1⟩
  case round =>
    clear C1 C2 hc1
    obtain ⟨j, hj, rfl, C1, C2, hb⟩ := hrel
    obtain ⟨⟨d0, d1⟩, -⟩ := bk2 C1
    obtain ⟨⟨e0, e1⟩, -⟩ := bk2 C2
    have g1 := C1.lt
    have g2 := C2.lt
    by_cases hlt : j < a.ks.length
    · obtain ⟨kb, koff, rfl, hkl, hkc, -⟩ := (H1.out.old hb) j hlt
      obtain ⟨kb', koff', rfl, hkl', hkc', -⟩ := (H2.out.old hb) j (by have := Hab.out; omega)
      have q0 : (0 : Int) ≤ j := by omega
      have q1 : (j : Int) < a.ks.length := by omega
      have q2 : (j : Int) < b.ks.length := by have := Hab.out; omega
      have R1 := HKs.out j hlt wr hb
      go_wp2_with fail
      refine Mm.region_ext (by kernel_rfl) (by kernel_rfl) ?_; (repeat (first | go_big_quiet_step ((exact Mm.RC.call (by with_reducible assumption) _)) | quiet_step ((exact Mm.RC.call (by with_reducible assumption) _)))); refine wpQuiet_nil ?_
      intro w5 hb5
      have D1 := C1.old hb5
      have D2 := C2.old hb5
      have hb6 := bl_trans hb hb5
      clear C1 C2 hb5 hb R1 d0 d1 e0 e1 hkc hkc'
      go_wp2_with fail
      go_roundw
      case rel => exact ⟨j + 1, by omega, by go_num, D1, D2, hb6⟩
      case measure => simp [intOf]; omega
    · go_wp2_with fail
      go_ret
      exact ⟨rfl, hb⟩
end Go.Proofs.Ytokddjohdodkmaa.Tm
