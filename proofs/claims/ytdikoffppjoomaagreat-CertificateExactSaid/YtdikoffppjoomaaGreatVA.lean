/- Walks: the reference's message of a head and its Verify. -/
import Derived.Test.YtdikoffppjoomaaGreatCP
import Derived.Test.YtdikoffppjoomaaGreatRH
import Derived.Test.YtdikoffppjoomaaGreatSC
import Derived.WalkKit
import Derived.WalkSpells
import Derived.WalkLawsBesides
import Derived.Deep.QuietTactic
import Derived.BigQuiet
import Derived.Deep.Draws
import Derived.Deep.AppendLies
import Derived.Laws.OwnMore
import Derived.Laws.BytesArg
import Derived.Lib.Hide
import Derived.Deep.LoopGhost
import Derived.OwnWalk
import Derived.Maps.AppendAt
import Derived.Deep.RegionHeld3
import Derived.Deep.CutBlock
namespace Go.Proofs.YtdikoffppjoomaaGreat.Ct
open Go.RowKit Go.Proofs.YtdikoffppjoomaaGreat.Dg
open Go.Proofs.YtdikoffppjoomaaGreat.Mw (I64 ret_int ret_bool Bk bl_trans own_ints RdI RdR ge ge_lt gi ge_mem own_rows wpList_append_run)
open Go.Proofs.YtdikoffppjoomaaGreat.Tr (RdD leaf leadE plead_any rlead_any rleaf_any)
open Go.Proofs.YtdikoffppjoomaaGreat.Sg (ver chal Wd app app_zero app_succ app_len infoInt sgv)
set_option linter.unusedVariables false
set_option linter.unusedSimpArgs false
set_option maxRecDepth 100000
attribute [local go_sem] eq_dig

set_option maxHeartbeats 4000000 in
theorem rmessage_any (h : He) (hr : Wd h.r) (hl : Wd h.l) (w : World) : Calls Tryz.prog 63 #[hev h] w fun e w' => e = .returned (dv (dgH h)) ∧ Below w.heap.size w w' := by
  have Hr := Lib.hid hr
  have Hl := Lib.hid hl
  clear hr hl
  go_enter Tryz.func63, Tryz.ntmps63
  go_wp2_with fail
  have HO0 : Hid ((((w.alloc (.cells (hcl h) 39)).alloc (.cells #[.int .u32 0, .int .u32 0, .int .u32 0, .int .u32 0] 35)).alloc (.cells #[.int .i64 h.n] 3)).ownsRow (w.heap.size + 2) 3 1 (.slice (some ⟨w.heap.size + 2, 0, none⟩) 1 1) ([h.n].length + 0) ([h.n].map (Value.int .i64))) := Sg.bk_owns (Mw.Bk.new' (by simp)) rfl (by simp [maxLen]) (Nat.le_refl _) rfl
  have HB0 : Hid (Bk (((w.alloc (.cells (hcl h) 39)).alloc (.cells #[.int .u32 0, .int .u32 0, .int .u32 0, .int .u32 0] 35)).alloc (.cells #[.int .i64 h.n] 3)) w.heap.size 39 (hcl h)) := ((Mw.Bk.new _ _ _).alloc _).alloc _
  have HC0 : Hid (Bk (((w.alloc (.cells (hcl h) 39)).alloc (.cells #[.int .u32 0, .int .u32 0, .int .u32 0, .int .u32 0] 35)).alloc (.cells #[.int .i64 h.n] 3)) (w.heap.size + 1) 35 #[.int .u32 0, .int .u32 0, .int .u32 0, .int .u32 0]) := (Mw.Bk.new' (by simp)).alloc _
  have hbl0 : Below w.heap.size w (((w.alloc (.cells (hcl h) 39)).alloc (.cells #[.int .u32 0, .int .u32 0, .int .u32 0, .int .u32 0] 35)).alloc (.cells #[.int .i64 h.n] 3)) := by (repeat (first | with_reducible exact Below.refl _ _ | with_reducible refine bl_drewN ?_ _ | with_reducible refine Below.drew ?_ | with_reducible refine bl_alloc ?_ _ | with_reducible refine Below.alloc ?_ (by first | omega | (simp; done) | (simp; omega)) _ | with_reducible refine Below.setCell ?_ (by first | omega | (simp; done) | (simp; omega)) _ | with_reducible assumption))
  go_loopw [3, 4] (fun v j wr => ∃ k : Nat, k ≤ 4 ∧ j = .int .i64 k ∧ wr.ownsRow (w.heap.size + 2) 3 1 v ([h.n].length + k) ((app [h.n] h.r k).map (Value.int .i64)) ∧ Bk wr w.heap.size 39 (hcl h) ∧ Bk wr (w.heap.size + 1) 35 #[.int .u32 0, .int .u32 0, .int .u32 0, .int .u32 0] ∧ Below w.heap.size w wr) (fun _ j _ => 4 - (RowKit.intOf j).toNat)
  case atStart => exact ⟨0, by omega, rfl, by rw [app_zero]; exact HO0.out, HB0.out, HC0.out, hbl0⟩
  case round =>
    clear HO0 HB0 HC0 hbl0
    obtain ⟨k, hk, rfl, hown, hB, hC, hb⟩ := hrel
    have hz := hC.lt
    by_cases hlt : k < 4
    · have hcw : wr.cell? ⟨w.heap.size, 2 + k, none⟩ = some (.int .u32 (wrd h.r k)) := by
        have : k = 0 ∨ k = 1 ∨ k = 2 ∨ k = 3 := by omega
        rcases this with h | h | h | h <;> subst h
        · exact hB.cell 2
        · exact hB.cell 3
        · exact hB.cell 4
        · exact hB.cell 5
      have hz0 := hB.lt
      have hbk : decide ((k : Int) < 4) = true := decide_eq_true (by omega)
      obtain ⟨e0, e1⟩ := (Sg.Wd.at Hr.out k)
      obtain ⟨v2, w2, hrun, hown2, hg2⟩ := appInt (x := wrd h.r k) (g := wr.heap.size) (hown.alloc (.cells #[.int .i64 (wrd h.r k)] 3)) (by rw [app_len _ _ _ hk]) (by simp) (by rw [app_len _ _ _ hk, List.length_singleton]; omega) (by simp; omega)
      have hb2 : Below w.heap.size w w2 := Below.grown (Mw.bl_alloc hb _) hg2 (by have := hb.size; simp; omega) (fun q hq => by have := (hown.lt q hq).1; omega)
      have hB2 : Bk w2 w.heap.size 39 (hcl h) := Mw.Bk.grown (hB.alloc _) hg2 (fun e => by have := (hown.lt _ e.symm).1; omega)
      have hC2 : Bk w2 (w.heap.size + 1) 35 _ := Mw.Bk.grown (hC.alloc _) hg2 (fun e => by have := (hown.lt _ e.symm).1; omega)
      have HO : Hid (w2.ownsRow (w.heap.size + 2) 3 1 v2 ([h.n].length + (k + 1)) ((app [h.n] h.r (k + 1)).map (Value.int .i64))) := by rw [app_succ _ _ _ hlt]; exact hown2
      clear hown hown2 hg2 hb hB hC
      go_wp2_with (at_builtin; refine wpList_append_run rfl (.tmp 13) (.tmp 19) 22 rfl _ (.slice (some ⟨wr.heap.size, 0, none⟩) 1 1) rfl rfl v2 w2 (by exact hrun) ?_)
      clear hrun
      go_wp2_with fail
      go_roundw
      case rel => exact ⟨k + 1, by omega, by go_num, HO.out, hB2, hC2, hb2⟩
      case measure => simp [RowKit.intOf]; omega
    · obtain rfl : k = 4 := by omega
      generalize hl1 : app [h.n] h.r 4 = L1 at *
      have hlen1 : L1.length = 5 := by rw [← hl1, app_len _ _ _ (by omega)]; rfl
      have f1 : wr.cell? ⟨w.heap.size, 1, none⟩ = some (.int .i64 h.c) := hB.cell 1
      have g0 : wr.cell? ⟨w.heap.size, 6, none⟩ = some (.int .u32 h.l.1) := hB.cell 6
      have hz0 := hB.lt
      obtain ⟨v2, w2, hrun, hown2, hg2⟩ := appInt (x := h.c) (g := wr.heap.size) (hown.alloc (.cells #[.int .i64 h.c] 3)) (by rw [hlen1]; rfl) (by simp) (by omega) (by simp; omega)
      have hb2 : Below w.heap.size w w2 := Below.grown (Mw.bl_alloc hb _) hg2 (by have := hb.size; simp; omega) (fun q hq => by have := (hown.lt q hq).1; omega)
      have hB2 : Bk w2 w.heap.size 39 (hcl h) := Mw.Bk.grown (hB.alloc _) hg2 (fun e => by have := (hown.lt _ e.symm).1; omega)
      have hC2 : Bk w2 (w.heap.size + 1) 35 #[.int .u32 0, .int .u32 0, .int .u32 0, .int .u32 0] := Mw.Bk.grown (hC.alloc _) hg2 (fun e => by have := (hown.lt _ e.symm).1; omega)
      have d0 : w2.cell? ⟨w.heap.size, 6, none⟩ = some (.int .u32 h.l.1) := hB2.cell 6
      have d1 : w2.cell? ⟨w.heap.size, 7, none⟩ = some (.int .u32 h.l.2.1) := hB2.cell 7
      have d2 : w2.cell? ⟨w.heap.size, 8, none⟩ = some (.int .u32 h.l.2.2.1) := hB2.cell 8
      have d3 : w2.cell? ⟨w.heap.size, 9, none⟩ = some (.int .u32 h.l.2.2.2) := hB2.cell 9
      have hz2 := hB2.lt
      have hll : [h.n].length + 4 + 1 = 6 := rfl
      rw [hll] at hown2
      have HO0 : Hid (w2.ownsRow (w.heap.size + 2) 3 1 v2 (6 + 0) ((L1 ++ [h.c]).map (Value.int .i64))) := hown2
      have HB0 := Lib.hid hB2
      have HC0 := Lib.hid hC2
      have hbl0 := hb2
      have Hl1 := Lib.hid hl1
      clear hl1 hown hown2 hg2 hb hB hC hB2 hC2 hb2 g0
      go_wp2_with (at_builtin; refine wpList_append_run rfl (.tmp 21) (.tmp 24) 22 rfl _ (.slice (some ⟨wr.heap.size, 0, none⟩) 1 1) rfl rfl v2 w2 (by exact hrun) ?_)
      clear hrun
      go_wp2_with fail
      clear d0 d1 d2 d3 hz2 f1 hz0
      generalize hL2 : L1 ++ [h.c] = L2 at *
      have hlen2 : L2.length = 6 := by rw [← hL2]; simp [hlen1]
      have HL2 := Lib.hid hL2
      have HO0 : Hid (w2.ownsRow (w.heap.size + 2) 3 1 v2 (L2.length + 0) (L2.map (Value.int .i64))) := by rw [hlen2]; exact HO0.out
      clear hL2 hz
      go_loopw [3, 5] (fun v j wr => ∃ k : Nat, k ≤ 4 ∧ j = .int .i64 k ∧ wr.ownsRow (w.heap.size + 2) 3 1 v (L2.length + k) ((app L2 h.l k).map (Value.int .i64)) ∧ Bk wr w.heap.size 39 (hcl h) ∧ Bk wr (w.heap.size + 1) 35 #[.int .u32 0, .int .u32 0, .int .u32 0, .int .u32 0] ∧ Below w.heap.size w wr) (fun _ j _ => 4 - (RowKit.intOf j).toNat)
      case atStart => exact ⟨0, by omega, rfl, by rw [app_zero]; exact HO0.out, HB0.out, HC0.out, hbl0⟩
      case round =>
        clear HO0 HB0 HC0 hbl0
        obtain ⟨k, hk, rfl, hown, hB, hC, hb⟩ := hrel
        have hz := hC.lt
        by_cases hlt : k < 4
        · have hcw : wr.cell? ⟨w.heap.size, 6 + k, none⟩ = some (.int .u32 (wrd h.l k)) := by
            have : k = 0 ∨ k = 1 ∨ k = 2 ∨ k = 3 := by omega
            rcases this with h | h | h | h <;> subst h
            · exact hB.cell 6
            · exact hB.cell 7
            · exact hB.cell 8
            · exact hB.cell 9
          have hz0 := hB.lt
          have hbk : decide ((k : Int) < 4) = true := decide_eq_true (by omega)
          obtain ⟨e0, e1⟩ := (Sg.Wd.at Hl.out k)
          obtain ⟨v2, w2, hrun, hown2, hg2⟩ := appInt (x := wrd h.l k) (g := wr.heap.size) (hown.alloc (.cells #[.int .i64 (wrd h.l k)] 3)) (by rw [app_len _ _ _ hk]) (by simp) (by rw [app_len _ _ _ hk, hlen2]; omega) (by simp; omega)
          have hb2 : Below w.heap.size w w2 := Below.grown (Mw.bl_alloc hb _) hg2 (by have := hb.size; simp; omega) (fun q hq => by have := (hown.lt q hq).1; omega)
          have hB2 : Bk w2 w.heap.size 39 (hcl h) := Mw.Bk.grown (hB.alloc _) hg2 (fun e => by have := (hown.lt _ e.symm).1; omega)
          have hC2 : Bk w2 (w.heap.size + 1) 35 _ := Mw.Bk.grown (hC.alloc _) hg2 (fun e => by have := (hown.lt _ e.symm).1; omega)
          have HO : Hid (w2.ownsRow (w.heap.size + 2) 3 1 v2 (L2.length + (k + 1)) ((app L2 h.l (k + 1)).map (Value.int .i64))) := by rw [app_succ _ _ _ hlt]; exact hown2
          clear hown hown2 hg2 hb hB hC
          go_wp2_with (at_builtin; refine wpList_append_run rfl (.tmp 30) (.tmp 36) 22 rfl _ (.slice (some ⟨wr.heap.size, 0, none⟩) 1 1) rfl rfl v2 w2 (by exact hrun) ?_)
          clear hrun
          go_wp2_with fail
          go_roundw
          case rel => exact ⟨k + 1, by omega, by go_num, HO.out, hB2, hC2, hb2⟩
          case measure => simp [RowKit.intOf]; omega
        · obtain rfl : k = 4 := by omega
          have hz0 := hB.lt
          obtain ⟨A, c, he, hrd, _⟩ := own_ints (l := app L2 h.l 4) (by rw [hlen2] at hown; exact hown)
          subst he
          have hl10 : (app L2 h.l 4).length = 10 := by rw [app_len _ _ _ (by omega), hlen2]
          have hnm : nmH h = app L2 h.l 4 := by unfold nmH; rw [Hl1.out, HL2.out]
          have HD : Hid (dgH h = words 7 (nw (app L2 h.l 4) (app L2 h.l 4).length)) := by unfold Hid dgH; rw [hnm]
          have hrd' : Rd wr wr.heap.size .i64 A (app L2 h.l 4) := hrd
          have HN := Lib.hid (rnumbers_any 7 A c (app L2 h.l 4) wr (by omega) hrd')
          have HC := Lib.hid hC
          clear hown hrd hrd' hnm hl10
          go_wp2_with fail
          refine HN.out.mono ?_
          rintro e w3 ⟨rfl, hb3⟩
          have hC3 := HC.out.old hb3
          have hbz := bl_trans hb hb3
          have hz3 := hC3.lt
          have zf := fun o => hC3.frozen o
          have s0 := hC3.cell 0
          have s1 := hC3.cell 1
          have s2 := hC3.cell 2
          have s3 := hC3.cell 3
          clear hC hB HN hb hb3
          rw [← HD.out]
          go_wp2_with fail
          have hB4 := Mw.Bk.set4 (b0 := .int .u32 (dgH h).1) (b1 := .int .u32 (dgH h).2.1) (b2 := .int .u32 (dgH h).2.2.1) (b3 := .int .u32 (dgH h).2.2.2) hC3
          have hbw : Below w.heap.size w ((((w3.setCell ⟨w.heap.size + 1, 0, none⟩ (.int .u32 (dgH h).1)).setCell ⟨w.heap.size + 1, 1, none⟩ (.int .u32 (dgH h).2.1)).setCell ⟨w.heap.size + 1, 2, none⟩ (.int .u32 (dgH h).2.2.1)).setCell ⟨w.heap.size + 1, 3, none⟩ (.int .u32 (dgH h).2.2.2)) := by (repeat (first | with_reducible exact Below.refl _ _ | with_reducible refine bl_drewN ?_ _ | with_reducible refine Below.drew ?_ | with_reducible refine bl_alloc ?_ _ | with_reducible refine Below.alloc ?_ (by first | omega | (simp; done) | (simp; omega)) _ | with_reducible refine Below.setCell ?_ (by first | omega | (simp; done) | (simp; omega)) _ | with_reducible assumption))
          generalize ((((w3.setCell ⟨w.heap.size + 1, 0, none⟩ (.int .u32 (dgH h).1)).setCell ⟨w.heap.size + 1, 1, none⟩ (.int .u32 (dgH h).2.1)).setCell ⟨w.heap.size + 1, 2, none⟩ (.int .u32 (dgH h).2.2.1)).setCell ⟨w.heap.size + 1, 3, none⟩ (.int .u32 (dgH h).2.2.2)) = wz at hB4 hbw ⊢
          clear s0 s1 s2 s3
          have k0 := hB4.cell 0
          have k1 := hB4.cell 1
          have k2 := hB4.cell 2
          have k3 := hB4.cell 3
          refine bodyPost_ret (v := dv (dgH h)) (by simp [results, Tryz.results63, go_sem, k0, k1, k2, k3]) rfl ⟨rfl, hbw⟩
set_option maxHeartbeats 4000000 in
theorem rvrf_any (p : Int) (h : He) (c : Cf) (i j : Int) (pa sp : List St) (A B : Option Addr) (ca cb : Nat) (w : World) (hp : I64 p) (hR : I64 h.R) (hS : I64 h.S) (hr : Wd h.r) (hl : Wd h.l)
    (hl1 : pa.length ≤ 1000000) (hc1 : pa.length ≤ ca) (hm1 : ca ≤ maxLen) (hA : RdD w A pa) (hl2 : sp.length ≤ 1000000) (hc2 : sp.length ≤ cb) (hm2 : cb ≤ maxLen) (hB : RdD w B sp) :
    Calls Tryz.prog 17 #[.int .i64 p, hev h, cfv c, .agg #[.int .i64 i, .int .i64 j, .slice A pa.length ca, .slice B sp.length cb]] w fun e w' => e = .returned (.int .i64 (vrf p h c i j pa sp)) ∧ Below w.heap.size w w' := by
  have HV := Lib.hid (rvalid_any c)
  cases hv : vld c
  · have H : Hid (vrf p h c i j pa sp = 1) := if_pos hv
    rw [hv] at HV
    rw [H.out]
    clear hA hB hv hr hl
    go_enter Tryz.func17, Tryz.ntmps17
    go_wp2_with fail
    refine (HV.out _).mono ?_
    rintro e w1 ⟨rfl, hb1⟩
    go_wp2_with fail
    go_ret
    exact ⟨rfl, bl_trans (by (repeat (first | with_reducible exact Below.refl _ _ | with_reducible refine bl_drewN ?_ _ | with_reducible refine Below.drew ?_ | with_reducible refine bl_alloc ?_ _ | with_reducible refine Below.alloc ?_ (by first | omega | (simp; done) | (simp; omega)) _ | with_reducible refine Below.setCell ?_ (by first | omega | (simp; done) | (simp; omega)) _ | with_reducible assumption))) hb1⟩
  have H1 : Hid (vrf p h c i j pa sp = if ver p h.R h.S (chal h.R p (dgH h)) = false then 45 else if ldE (dgE ⟨0, c⟩) i h.n pa h.r = false then 44 else if ldE (dgC c) j h.c sp h.l = false then 46 else 0) := if_neg (by rw [hv]; simp)
  rw [hv] at HV
  clear hv
  have HA := Lib.hid hA
  have HB := Lib.hid hB
  have HSe : Hid (∀ W : World, Calls Tryz.prog 63 #[hev h] W fun e w' => e = .returned (dv (dgH h)) ∧ Below W.heap.size W w') := fun W => rmessage_any h hr hl W
  have HVe : Hid (∀ W : World, Calls Tryz.prog 62 #[.int .i64 p, dv (dgH h), sgv h.R h.S] W fun e w' => e = .returned (.bool (ver p h.R h.S (chal h.R p (dgH h)))) ∧ Below W.heap.size W w') := fun W => Sg.rverify_any p h.R h.S (dgH h) hp hR hS (dgH_wd h) W
  have HL1 : Hid (∀ W : World, Below w.heap.size w W → Calls Tryz.prog 64 #[dv (leaf (dgE ⟨0, c⟩)), .int .i64 i, .int .i64 h.n, .slice A pa.length ca] W (Tr.LE (leadE (leaf (dgE ⟨0, c⟩)) i h.n pa) W)) := fun W hb => rlead_any (leaf (dgE ⟨0, c⟩)) i h.n pa A ca W hl1 hc1 hm1 (HA.out.old hb)
  have HL2 : Hid (∀ W : World, Below w.heap.size w W → Calls Tryz.prog 64 #[dv (leaf (dgC c)), .int .i64 j, .int .i64 h.c, .slice B sp.length cb] W (Tr.LE (leadE (leaf (dgC c)) j h.c sp) W)) := fun W hb => rlead_any (leaf (dgC c)) j h.c sp B cb W hl2 hc2 hm2 (HB.out.old hb)
  have D1 : Hid (ldE (dgE ⟨0, c⟩) i h.n pa h.r = (decide ((leadE (leaf (dgE ⟨0, c⟩)) i h.n pa).2 = 0) && eqb (leadE (leaf (dgE ⟨0, c⟩)) i h.n pa).1 h.r)) := rfl
  have D2 : Hid (ldE (dgC c) j h.c sp h.l = (decide ((leadE (leaf (dgC c)) j h.c sp).2 = 0) && eqb (leadE (leaf (dgC c)) j h.c sp).1 h.l)) := rfl
  clear hA hB hr hl
  generalize ver p h.R h.S (chal h.R p (dgH h)) = v1 at *
  generalize leadE (leaf (dgE ⟨0, c⟩)) i h.n pa = X at HL1 D1
  generalize leadE (leaf (dgC c)) j h.c sp = Y at HL2 D2
  obtain ⟨x, ex⟩ := X
  obtain ⟨y, ey⟩ := Y
  generalize ldE (dgE ⟨0, c⟩) i h.n pa h.r = v2 at *
  generalize ldE (dgC c) j h.c sp h.l = v3 at *
  go_enter Tryz.func17, Tryz.ntmps17
  go_wp2_with fail
  refine (HV.out _).mono ?_
  rintro e w1 ⟨rfl, hb1⟩
  have hH : Bk w1 w.heap.size 39 (hcl h) := Mw.Bk.old (((Mw.Bk.new _ _ _).alloc _).alloc _) hb1
  have hC : Bk w1 (w.heap.size + 1) 46 #[.int .i64 c.i, .int .i64 c.c, .int .i64 c.g, .int .i64 c.t, .int .i64 c.r] := Mw.Bk.old ((Mw.Bk.new' (by simp)).alloc _) hb1
  have hP : Bk w1 (w.heap.size + 2) 49 #[.int .i64 i, .int .i64 j, .slice A pa.length ca, .slice B sp.length cb] := Mw.Bk.old (Mw.Bk.new' (by simp)) hb1
  have hb2 : Below w.heap.size w w1 := bl_trans (by (repeat (first | with_reducible exact Below.refl _ _ | with_reducible refine bl_drewN ?_ _ | with_reducible refine Below.drew ?_ | with_reducible refine bl_alloc ?_ _ | with_reducible refine Below.alloc ?_ (by first | omega | (simp; done) | (simp; omega)) _ | with_reducible refine Below.setCell ?_ (by first | omega | (simp; done) | (simp; omega)) _ | with_reducible assumption))) hb1
  clear hb1 HV
  have x0 : w1.cell? ⟨w.heap.size, 0, none⟩ = some (.int .i64 h.n) := hH.cell 0
  have x1 : w1.cell? ⟨w.heap.size, 1, none⟩ = some (.int .i64 h.c) := hH.cell 1
  have x2 : w1.cell? ⟨w.heap.size, 2, none⟩ = some (.int .u32 h.r.1) := hH.cell 2
  have x3 : w1.cell? ⟨w.heap.size, 3, none⟩ = some (.int .u32 h.r.2.1) := hH.cell 3
  have x4 : w1.cell? ⟨w.heap.size, 4, none⟩ = some (.int .u32 h.r.2.2.1) := hH.cell 4
  have x5 : w1.cell? ⟨w.heap.size, 5, none⟩ = some (.int .u32 h.r.2.2.2) := hH.cell 5
  have x6 : w1.cell? ⟨w.heap.size, 6, none⟩ = some (.int .u32 h.l.1) := hH.cell 6
  have x7 : w1.cell? ⟨w.heap.size, 7, none⟩ = some (.int .u32 h.l.2.1) := hH.cell 7
  have x8 : w1.cell? ⟨w.heap.size, 8, none⟩ = some (.int .u32 h.l.2.2.1) := hH.cell 8
  have x9 : w1.cell? ⟨w.heap.size, 9, none⟩ = some (.int .u32 h.l.2.2.2) := hH.cell 9
  have xa : w1.cell? ⟨w.heap.size, 10, none⟩ = some (.int .i64 h.R) := hH.cell 10
  have xb : w1.cell? ⟨w.heap.size, 11, none⟩ = some (.int .i64 h.S) := hH.cell 11
  have xl := hH.lt
  have R1 : Mm.RC 63 #[hev h] w1 (dv (dgH h)) := Mm.RC.of fun W _ => HSe.out W
  have R2 : Mm.RC 62 #[.int .i64 p, dv (dgH h), sgv h.R h.S] w1 (.bool v1) := Mm.RC.of fun W _ => HVe.out W
  go_wp2_with fail
  refine Mm.region_ext (by kernel_rfl) (by kernel_rfl) ?_; (repeat (first | go_big_quiet_step ((exact Mm.RC.call (by with_reducible assumption) _)) | quiet_step ((exact Mm.RC.call (by with_reducible assumption) _)))); refine wpQuiet_nil ?_
  intro w2 hb3
  have hH2 := hH.old hb3
  have hC2 := hC.old hb3
  have hP2 := hP.old hb3
  have hb4 := bl_trans hb2 hb3
  clear hH hC hP hb2 hb3 R1 R2 x0 x1 x2 x3 x4 x5 x6 x7 x8 x9 xa xb xl
  cases v1
  · have H : Hid (vrf p h c i j pa sp = 45) := H1.out.trans (if_pos rfl)
    clear H1
    go_wp2_with fail
    go_ret
    exact ⟨by rw [H.out] <;> rfl, hb4⟩
  have H2 := Lib.hid (H1.out.trans (if_neg (by simp)))
  clear H1
  have x0_2 : w2.cell? ⟨w.heap.size, 0, none⟩ = some (.int .i64 h.n) := hH2.cell 0
  have x1_2 : w2.cell? ⟨w.heap.size, 1, none⟩ = some (.int .i64 h.c) := hH2.cell 1
  have c0_2 : w2.cell? ⟨w.heap.size + 1, 0, none⟩ = some (.int .i64 c.i) := hC2.cell 0
  have c1_2 : w2.cell? ⟨w.heap.size + 1, 1, none⟩ = some (.int .i64 c.c) := hC2.cell 1
  have c2_2 : w2.cell? ⟨w.heap.size + 1, 2, none⟩ = some (.int .i64 c.g) := hC2.cell 2
  have c3_2 : w2.cell? ⟨w.heap.size + 1, 3, none⟩ = some (.int .i64 c.t) := hC2.cell 3
  have c4_2 : w2.cell? ⟨w.heap.size + 1, 4, none⟩ = some (.int .i64 c.r) := hC2.cell 4
  have p0_2 : w2.cell? ⟨w.heap.size + 2, 0, none⟩ = some (.int .i64 i) := hP2.cell 0
  have p1_2 : w2.cell? ⟨w.heap.size + 2, 1, none⟩ = some (.int .i64 j) := hP2.cell 1
  have p2_2 : w2.cell? ⟨w.heap.size + 2, 2, none⟩ = some (.slice A pa.length ca) := hP2.cell 2
  have p3_2 : w2.cell? ⟨w.heap.size + 2, 3, none⟩ = some (.slice B sp.length cb) := hP2.cell 3
  have l1_2 := hH2.lt
  have l2_2 := hC2.lt
  have l3_2 := hP2.lt
  go_upto_region 6 with fail
  go_cut [9, 10] (fun p er wx => er = .int .i64 ex ∧ ∃ g, p = .pointer (some ⟨g, 0, none⟩) ∧ Bk wx g 35 (Tr.c4 x) ∧ Bk wx w.heap.size 39 (hcl h) ∧ Bk wx (w.heap.size + 1) 46 #[.int .i64 c.i, .int .i64 c.c, .int .i64 c.g, .int .i64 c.t, .int .i64 c.r] ∧ Bk wx (w.heap.size + 2) 49 #[.int .i64 i, .int .i64 j, .slice A pa.length ca, .slice B sp.length cb] ∧ Below w.heap.size w wx)
  case first =>
    go_region_held3 (fun w' => w'.cell? ⟨w.heap.size, 0, none⟩ = some (.int .i64 h.n) ∧ w'.cell? ⟨w.heap.size, 1, none⟩ = some (.int .i64 h.c) ∧ w'.cell? ⟨w.heap.size + 1, 0, none⟩ = some (.int .i64 c.i) ∧ w'.cell? ⟨w.heap.size + 1, 1, none⟩ = some (.int .i64 c.c) ∧ w'.cell? ⟨w.heap.size + 1, 2, none⟩ = some (.int .i64 c.g) ∧ w'.cell? ⟨w.heap.size + 1, 3, none⟩ = some (.int .i64 c.t) ∧ w'.cell? ⟨w.heap.size + 1, 4, none⟩ = some (.int .i64 c.r) ∧ w'.cell? ⟨w.heap.size + 2, 0, none⟩ = some (.int .i64 i) ∧ w'.cell? ⟨w.heap.size + 2, 1, none⟩ = some (.int .i64 j) ∧ w'.cell? ⟨w.heap.size + 2, 2, none⟩ = some (.slice A pa.length ca) ∧ w'.cell? ⟨w.heap.size + 2, 3, none⟩ = some (.slice B sp.length cb)) ((refine ⟨?_, ?_, ?_, ?_, ?_, ?_, ?_, ?_, ?_, ?_, ?_⟩ <;> (repeat (first | with_reducible assumption | with_reducible refine Mw.cell_alloc ?_ _ | with_reducible refine Mw.cell_drew ?_ | with_reducible refine Mw.cell_far ?_ (by first | assumption | omega | (simp; omega)) _)))) (first | (go_at_call 32; (with_reducible refine (rentry_any ⟨0, c⟩ _).mono ?_); rintro e w3 ⟨rfl, hb3⟩; have hH3 : Bk w3 w.heap.size 39 (hcl h) := Mw.Bk.old (by (repeat (first | with_reducible assumption | ((with_reducible refine Mw.Bk.new' ?_); (first | rfl | (simp; done) | (simp; omega))) | with_reducible refine Mw.Bk.alloc ?_ _ | with_reducible refine Mw.Bk.drew ?_ | with_reducible refine Mw.Bk.drewN ?_ _ | with_reducible refine Mw.Bk.set4 (a0 := .int .u32 0) (a1 := .int .u32 0) (a2 := .int .u32 0) (a3 := .int .u32 0) ?_ | ((with_reducible refine Mw.Bk.far ?_ ?_ _); rotate_left 1; focus (first | omega | (simp; done) | (simp; omega))) | with_reducible refine Mw.Bk.old ?_ (by assumption)))) hb3; have hC3 : Bk w3 (w.heap.size + 1) 46 #[.int .i64 c.i, .int .i64 c.c, .int .i64 c.g, .int .i64 c.t, .int .i64 c.r] := Mw.Bk.old (by (repeat (first | with_reducible assumption | ((with_reducible refine Mw.Bk.new' ?_); (first | rfl | (simp; done) | (simp; omega))) | with_reducible refine Mw.Bk.alloc ?_ _ | with_reducible refine Mw.Bk.drew ?_ | with_reducible refine Mw.Bk.drewN ?_ _ | with_reducible refine Mw.Bk.set4 (a0 := .int .u32 0) (a1 := .int .u32 0) (a2 := .int .u32 0) (a3 := .int .u32 0) ?_ | ((with_reducible refine Mw.Bk.far ?_ ?_ _); rotate_left 1; focus (first | omega | (simp; done) | (simp; omega))) | with_reducible refine Mw.Bk.old ?_ (by assumption)))) hb3; have hP3 : Bk w3 (w.heap.size + 2) 49 #[.int .i64 i, .int .i64 j, .slice A pa.length ca, .slice B sp.length cb] := Mw.Bk.old (by (repeat (first | with_reducible assumption | ((with_reducible refine Mw.Bk.new' ?_); (first | rfl | (simp; done) | (simp; omega))) | with_reducible refine Mw.Bk.alloc ?_ _ | with_reducible refine Mw.Bk.drew ?_ | with_reducible refine Mw.Bk.drewN ?_ _ | with_reducible refine Mw.Bk.set4 (a0 := .int .u32 0) (a1 := .int .u32 0) (a2 := .int .u32 0) (a3 := .int .u32 0) ?_ | ((with_reducible refine Mw.Bk.far ?_ ?_ _); rotate_left 1; focus (first | omega | (simp; done) | (simp; omega))) | with_reducible refine Mw.Bk.old ?_ (by assumption)))) hb3; have hc3 : Below w.heap.size w w3 := bl_trans (by (repeat (first | with_reducible exact Below.refl _ _ | with_reducible refine bl_drewN ?_ _ | with_reducible refine Below.drew ?_ | with_reducible refine bl_alloc ?_ _ | with_reducible refine Below.alloc ?_ (by first | omega | (simp; done) | (simp; omega)) _ | with_reducible refine Below.setCell ?_ (by first | omega | (simp; done) | (simp; omega)) _ | with_reducible assumption))) hb3; have x0_3 : w3.cell? ⟨w.heap.size, 0, none⟩ = some (.int .i64 h.n) := hH3.cell 0; have x1_3 : w3.cell? ⟨w.heap.size, 1, none⟩ = some (.int .i64 h.c) := hH3.cell 1; have c0_3 : w3.cell? ⟨w.heap.size + 1, 0, none⟩ = some (.int .i64 c.i) := hC3.cell 0; have c1_3 : w3.cell? ⟨w.heap.size + 1, 1, none⟩ = some (.int .i64 c.c) := hC3.cell 1; have c2_3 : w3.cell? ⟨w.heap.size + 1, 2, none⟩ = some (.int .i64 c.g) := hC3.cell 2; have c3_3 : w3.cell? ⟨w.heap.size + 1, 3, none⟩ = some (.int .i64 c.t) := hC3.cell 3; have c4_3 : w3.cell? ⟨w.heap.size + 1, 4, none⟩ = some (.int .i64 c.r) := hC3.cell 4; have p0_3 : w3.cell? ⟨w.heap.size + 2, 0, none⟩ = some (.int .i64 i) := hP3.cell 0; have p1_3 : w3.cell? ⟨w.heap.size + 2, 1, none⟩ = some (.int .i64 j) := hP3.cell 1; have p2_3 : w3.cell? ⟨w.heap.size + 2, 2, none⟩ = some (.slice A pa.length ca) := hP3.cell 2; have p3_3 : w3.cell? ⟨w.heap.size + 2, 3, none⟩ = some (.slice B sp.length cb) := hP3.cell 3; have l1_3 := hH3.lt; have l2_3 := hC3.lt; have l3_3 := hP3.lt; (try have hN32 : Bk w3 w2.heap.size 35 #[.int .u32 0, .int .u32 0, .int .u32 0, .int .u32 0] := Mw.Bk.old (by first | exact (Mw.Bk.new _ _ _).drew | exact hN22.drew | exact hN22) hb3); (try (have mN32 := hN32.lt; obtain ⟨⟨a0, a1, a2, a3⟩, b0, b1, b2, b3⟩ := Tr.bk4 hN32))) | (go_at_call 65; (with_reducible refine (rleaf_any _ _).mono ?_); rintro e w4 ⟨rfl, hb4⟩; have hH4 : Bk w4 w.heap.size 39 (hcl h) := Mw.Bk.old (by (repeat (first | with_reducible assumption | ((with_reducible refine Mw.Bk.new' ?_); (first | rfl | (simp; done) | (simp; omega))) | with_reducible refine Mw.Bk.alloc ?_ _ | with_reducible refine Mw.Bk.drew ?_ | with_reducible refine Mw.Bk.drewN ?_ _ | with_reducible refine Mw.Bk.set4 (a0 := .int .u32 0) (a1 := .int .u32 0) (a2 := .int .u32 0) (a3 := .int .u32 0) ?_ | ((with_reducible refine Mw.Bk.far ?_ ?_ _); rotate_left 1; focus (first | omega | (simp; done) | (simp; omega))) | with_reducible refine Mw.Bk.old ?_ (by assumption)))) hb4; have hC4 : Bk w4 (w.heap.size + 1) 46 #[.int .i64 c.i, .int .i64 c.c, .int .i64 c.g, .int .i64 c.t, .int .i64 c.r] := Mw.Bk.old (by (repeat (first | with_reducible assumption | ((with_reducible refine Mw.Bk.new' ?_); (first | rfl | (simp; done) | (simp; omega))) | with_reducible refine Mw.Bk.alloc ?_ _ | with_reducible refine Mw.Bk.drew ?_ | with_reducible refine Mw.Bk.drewN ?_ _ | with_reducible refine Mw.Bk.set4 (a0 := .int .u32 0) (a1 := .int .u32 0) (a2 := .int .u32 0) (a3 := .int .u32 0) ?_ | ((with_reducible refine Mw.Bk.far ?_ ?_ _); rotate_left 1; focus (first | omega | (simp; done) | (simp; omega))) | with_reducible refine Mw.Bk.old ?_ (by assumption)))) hb4; have hP4 : Bk w4 (w.heap.size + 2) 49 #[.int .i64 i, .int .i64 j, .slice A pa.length ca, .slice B sp.length cb] := Mw.Bk.old (by (repeat (first | with_reducible assumption | ((with_reducible refine Mw.Bk.new' ?_); (first | rfl | (simp; done) | (simp; omega))) | with_reducible refine Mw.Bk.alloc ?_ _ | with_reducible refine Mw.Bk.drew ?_ | with_reducible refine Mw.Bk.drewN ?_ _ | with_reducible refine Mw.Bk.set4 (a0 := .int .u32 0) (a1 := .int .u32 0) (a2 := .int .u32 0) (a3 := .int .u32 0) ?_ | ((with_reducible refine Mw.Bk.far ?_ ?_ _); rotate_left 1; focus (first | omega | (simp; done) | (simp; omega))) | with_reducible refine Mw.Bk.old ?_ (by assumption)))) hb4; have hc4 : Below w.heap.size w w4 := bl_trans (by (repeat (first | with_reducible exact Below.refl _ _ | with_reducible refine bl_drewN ?_ _ | with_reducible refine Below.drew ?_ | with_reducible refine bl_alloc ?_ _ | with_reducible refine Below.alloc ?_ (by first | omega | (simp; done) | (simp; omega)) _ | with_reducible refine Below.setCell ?_ (by first | omega | (simp; done) | (simp; omega)) _ | with_reducible assumption))) hb4; have x0_4 : w4.cell? ⟨w.heap.size, 0, none⟩ = some (.int .i64 h.n) := hH4.cell 0; have x1_4 : w4.cell? ⟨w.heap.size, 1, none⟩ = some (.int .i64 h.c) := hH4.cell 1; have c0_4 : w4.cell? ⟨w.heap.size + 1, 0, none⟩ = some (.int .i64 c.i) := hC4.cell 0; have c1_4 : w4.cell? ⟨w.heap.size + 1, 1, none⟩ = some (.int .i64 c.c) := hC4.cell 1; have c2_4 : w4.cell? ⟨w.heap.size + 1, 2, none⟩ = some (.int .i64 c.g) := hC4.cell 2; have c3_4 : w4.cell? ⟨w.heap.size + 1, 3, none⟩ = some (.int .i64 c.t) := hC4.cell 3; have c4_4 : w4.cell? ⟨w.heap.size + 1, 4, none⟩ = some (.int .i64 c.r) := hC4.cell 4; have p0_4 : w4.cell? ⟨w.heap.size + 2, 0, none⟩ = some (.int .i64 i) := hP4.cell 0; have p1_4 : w4.cell? ⟨w.heap.size + 2, 1, none⟩ = some (.int .i64 j) := hP4.cell 1; have p2_4 : w4.cell? ⟨w.heap.size + 2, 2, none⟩ = some (.slice A pa.length ca) := hP4.cell 2; have p3_4 : w4.cell? ⟨w.heap.size + 2, 3, none⟩ = some (.slice B sp.length cb) := hP4.cell 3; have l1_4 := hH4.lt; have l2_4 := hC4.lt; have l3_4 := hP4.lt; (try have hN42 : Bk w4 w2.heap.size 35 #[.int .u32 0, .int .u32 0, .int .u32 0, .int .u32 0] := Mw.Bk.old (by first | exact (Mw.Bk.new _ _ _).drew | exact hN32.drew | exact hN32) hb4); (try (have mN42 := hN42.lt; obtain ⟨⟨a0, a1, a2, a3⟩, b0, b1, b2, b3⟩ := Tr.bk4 hN42)); (try have hN43 : Bk w4 w3.heap.size 35 #[.int .u32 0, .int .u32 0, .int .u32 0, .int .u32 0] := Mw.Bk.old (by first | exact (Mw.Bk.new _ _ _).drew | exact hN33.drew | exact hN33) hb4); (try (have mN43 := hN43.lt; obtain ⟨⟨a0, a1, a2, a3⟩, b0, b1, b2, b3⟩ := Tr.bk4 hN43))) | (go_at_call 64; (with_reducible refine (HL1.out _ (by (repeat (first | with_reducible exact Below.refl _ _ | with_reducible refine bl_drewN ?_ _ | with_reducible refine Below.drew ?_ | with_reducible refine bl_alloc ?_ _ | with_reducible refine Below.alloc ?_ (by first | omega | (simp; done) | (simp; omega)) _ | with_reducible refine Below.setCell ?_ (by first | omega | (simp; done) | (simp; omega)) _ | with_reducible assumption)))).mono ?_); rintro e w5 ⟨rfl, hb5⟩; have hH5 : Bk w5 w.heap.size 39 (hcl h) := Mw.Bk.old (by (repeat (first | with_reducible assumption | ((with_reducible refine Mw.Bk.new' ?_); (first | rfl | (simp; done) | (simp; omega))) | with_reducible refine Mw.Bk.alloc ?_ _ | with_reducible refine Mw.Bk.drew ?_ | with_reducible refine Mw.Bk.drewN ?_ _ | with_reducible refine Mw.Bk.set4 (a0 := .int .u32 0) (a1 := .int .u32 0) (a2 := .int .u32 0) (a3 := .int .u32 0) ?_ | ((with_reducible refine Mw.Bk.far ?_ ?_ _); rotate_left 1; focus (first | omega | (simp; done) | (simp; omega))) | with_reducible refine Mw.Bk.old ?_ (by assumption)))) hb5; have hC5 : Bk w5 (w.heap.size + 1) 46 #[.int .i64 c.i, .int .i64 c.c, .int .i64 c.g, .int .i64 c.t, .int .i64 c.r] := Mw.Bk.old (by (repeat (first | with_reducible assumption | ((with_reducible refine Mw.Bk.new' ?_); (first | rfl | (simp; done) | (simp; omega))) | with_reducible refine Mw.Bk.alloc ?_ _ | with_reducible refine Mw.Bk.drew ?_ | with_reducible refine Mw.Bk.drewN ?_ _ | with_reducible refine Mw.Bk.set4 (a0 := .int .u32 0) (a1 := .int .u32 0) (a2 := .int .u32 0) (a3 := .int .u32 0) ?_ | ((with_reducible refine Mw.Bk.far ?_ ?_ _); rotate_left 1; focus (first | omega | (simp; done) | (simp; omega))) | with_reducible refine Mw.Bk.old ?_ (by assumption)))) hb5; have hP5 : Bk w5 (w.heap.size + 2) 49 #[.int .i64 i, .int .i64 j, .slice A pa.length ca, .slice B sp.length cb] := Mw.Bk.old (by (repeat (first | with_reducible assumption | ((with_reducible refine Mw.Bk.new' ?_); (first | rfl | (simp; done) | (simp; omega))) | with_reducible refine Mw.Bk.alloc ?_ _ | with_reducible refine Mw.Bk.drew ?_ | with_reducible refine Mw.Bk.drewN ?_ _ | with_reducible refine Mw.Bk.set4 (a0 := .int .u32 0) (a1 := .int .u32 0) (a2 := .int .u32 0) (a3 := .int .u32 0) ?_ | ((with_reducible refine Mw.Bk.far ?_ ?_ _); rotate_left 1; focus (first | omega | (simp; done) | (simp; omega))) | with_reducible refine Mw.Bk.old ?_ (by assumption)))) hb5; have hc5 : Below w.heap.size w w5 := bl_trans (by (repeat (first | with_reducible exact Below.refl _ _ | with_reducible refine bl_drewN ?_ _ | with_reducible refine Below.drew ?_ | with_reducible refine bl_alloc ?_ _ | with_reducible refine Below.alloc ?_ (by first | omega | (simp; done) | (simp; omega)) _ | with_reducible refine Below.setCell ?_ (by first | omega | (simp; done) | (simp; omega)) _ | with_reducible assumption))) hb5; have x0_5 : w5.cell? ⟨w.heap.size, 0, none⟩ = some (.int .i64 h.n) := hH5.cell 0; have x1_5 : w5.cell? ⟨w.heap.size, 1, none⟩ = some (.int .i64 h.c) := hH5.cell 1; have c0_5 : w5.cell? ⟨w.heap.size + 1, 0, none⟩ = some (.int .i64 c.i) := hC5.cell 0; have c1_5 : w5.cell? ⟨w.heap.size + 1, 1, none⟩ = some (.int .i64 c.c) := hC5.cell 1; have c2_5 : w5.cell? ⟨w.heap.size + 1, 2, none⟩ = some (.int .i64 c.g) := hC5.cell 2; have c3_5 : w5.cell? ⟨w.heap.size + 1, 3, none⟩ = some (.int .i64 c.t) := hC5.cell 3; have c4_5 : w5.cell? ⟨w.heap.size + 1, 4, none⟩ = some (.int .i64 c.r) := hC5.cell 4; have p0_5 : w5.cell? ⟨w.heap.size + 2, 0, none⟩ = some (.int .i64 i) := hP5.cell 0; have p1_5 : w5.cell? ⟨w.heap.size + 2, 1, none⟩ = some (.int .i64 j) := hP5.cell 1; have p2_5 : w5.cell? ⟨w.heap.size + 2, 2, none⟩ = some (.slice A pa.length ca) := hP5.cell 2; have p3_5 : w5.cell? ⟨w.heap.size + 2, 3, none⟩ = some (.slice B sp.length cb) := hP5.cell 3; have l1_5 := hH5.lt; have l2_5 := hC5.lt; have l3_5 := hP5.lt; (try have hN52 : Bk w5 w2.heap.size 35 #[.int .u32 0, .int .u32 0, .int .u32 0, .int .u32 0] := Mw.Bk.old (by first | exact (Mw.Bk.new _ _ _).drew | exact hN42.drew | exact hN42) hb5); (try (have mN52 := hN52.lt; obtain ⟨⟨a0, a1, a2, a3⟩, b0, b1, b2, b3⟩ := Tr.bk4 hN52)); (try have hN53 : Bk w5 w3.heap.size 35 #[.int .u32 0, .int .u32 0, .int .u32 0, .int .u32 0] := Mw.Bk.old (by first | exact (Mw.Bk.new _ _ _).drew | exact hN43.drew | exact hN43) hb5); (try (have mN53 := hN53.lt; obtain ⟨⟨a0, a1, a2, a3⟩, b0, b1, b2, b3⟩ := Tr.bk4 hN53)); (try have hN54 : Bk w5 w4.heap.size 35 #[.int .u32 0, .int .u32 0, .int .u32 0, .int .u32 0] := Mw.Bk.old (by first | exact (Mw.Bk.new _ _ _).drew | exact hN44.drew | exact hN44) hb5); (try (have mN54 := hN54.lt; obtain ⟨⟨a0, a1, a2, a3⟩, b0, b1, b2, b3⟩ := Tr.bk4 hN54))))
    all_goals
      go_wp2_with fail
      go_meet
      exact ⟨rfl, _, rfl, by (repeat (first | with_reducible assumption | ((with_reducible refine Mw.Bk.new' ?_); (first | rfl | (simp; done) | (simp; omega))) | with_reducible refine Mw.Bk.alloc ?_ _ | with_reducible refine Mw.Bk.drew ?_ | with_reducible refine Mw.Bk.drewN ?_ _ | with_reducible refine Mw.Bk.set4 (a0 := .int .u32 0) (a1 := .int .u32 0) (a2 := .int .u32 0) (a3 := .int .u32 0) ?_ | ((with_reducible refine Mw.Bk.far ?_ ?_ _); rotate_left 1; focus (first | omega | (simp; done) | (simp; omega))) | with_reducible refine Mw.Bk.old ?_ (by assumption))), by (repeat (first | with_reducible assumption | ((with_reducible refine Mw.Bk.new' ?_); (first | rfl | (simp; done) | (simp; omega))) | with_reducible refine Mw.Bk.alloc ?_ _ | with_reducible refine Mw.Bk.drew ?_ | with_reducible refine Mw.Bk.drewN ?_ _ | with_reducible refine Mw.Bk.set4 (a0 := .int .u32 0) (a1 := .int .u32 0) (a2 := .int .u32 0) (a3 := .int .u32 0) ?_ | ((with_reducible refine Mw.Bk.far ?_ ?_ _); rotate_left 1; focus (first | omega | (simp; done) | (simp; omega))) | with_reducible refine Mw.Bk.old ?_ (by assumption))), by (repeat (first | with_reducible assumption | ((with_reducible refine Mw.Bk.new' ?_); (first | rfl | (simp; done) | (simp; omega))) | with_reducible refine Mw.Bk.alloc ?_ _ | with_reducible refine Mw.Bk.drew ?_ | with_reducible refine Mw.Bk.drewN ?_ _ | with_reducible refine Mw.Bk.set4 (a0 := .int .u32 0) (a1 := .int .u32 0) (a2 := .int .u32 0) (a3 := .int .u32 0) ?_ | ((with_reducible refine Mw.Bk.far ?_ ?_ _); rotate_left 1; focus (first | omega | (simp; done) | (simp; omega))) | with_reducible refine Mw.Bk.old ?_ (by assumption))), by (repeat (first | with_reducible assumption | ((with_reducible refine Mw.Bk.new' ?_); (first | rfl | (simp; done) | (simp; omega))) | with_reducible refine Mw.Bk.alloc ?_ _ | with_reducible refine Mw.Bk.drew ?_ | with_reducible refine Mw.Bk.drewN ?_ _ | with_reducible refine Mw.Bk.set4 (a0 := .int .u32 0) (a1 := .int .u32 0) (a2 := .int .u32 0) (a3 := .int .u32 0) ?_ | ((with_reducible refine Mw.Bk.far ?_ ?_ _); rotate_left 1; focus (first | omega | (simp; done) | (simp; omega))) | with_reducible refine Mw.Bk.old ?_ (by assumption))), by (repeat (first | with_reducible exact Below.refl _ _ | with_reducible refine bl_drewN ?_ _ | with_reducible refine Below.drew ?_ | with_reducible refine bl_alloc ?_ _ | with_reducible refine Below.alloc ?_ (by first | omega | (simp; done) | (simp; omega)) _ | with_reducible refine Below.setCell ?_ (by first | omega | (simp; done) | (simp; omega)) _ | with_reducible assumption))⟩
  case rest =>
    clear x0_2 x1_2 c0_2 c1_2 c2_2 c3_2 c4_2 p0_2 p1_2 p2_2 p3_2 l1_2 l2_2 l3_2 hH2 hC2 hP2 hb4
    obtain ⟨rfl, g, rfl, hX, hH, hC, hP, hb⟩ := hcut
    obtain ⟨⟨k0, k1, k2, k3⟩, -⟩ := Tr.bk4 hX
    have y0 : wc.cell? ⟨w.heap.size, 2, none⟩ = some (.int .u32 h.r.1) := hH.cell 2
    have y1 : wc.cell? ⟨w.heap.size, 3, none⟩ = some (.int .u32 h.r.2.1) := hH.cell 3
    have y2 : wc.cell? ⟨w.heap.size, 4, none⟩ = some (.int .u32 h.r.2.2.1) := hH.cell 4
    have y3 : wc.cell? ⟨w.heap.size, 5, none⟩ = some (.int .u32 h.r.2.2.2) := hH.cell 5
    have m0 := hX.lt
    have m1 := hH.lt
    by_cases q0 : ex = 0
    · have t0 : (ex != 0) = false := by rw [q0]; rfl
      by_cases q1 : eqb x h.r = true
      · have H3 := Lib.hid (H2.out.trans (if_neg (by rw [D1.out, q0, q1]; simp)))
        clear H2 D1 q0
        go_wp2_with fail
        clear k0 k1 k2 k3 y0 y1 y2 y3 m0 m1 t0 q1 hX
        have hH6 := hH
        have hC6 := hC
        have hP6 := hP
        have hb6 := hb
        clear hH hC hP hb
        obtain ⟨w6, hw6⟩ : ∃ w6, w6 = wc := ⟨_, rfl⟩
        rw [← hw6] at hH6 hC6 hP6 hb6 ⊢
        clear hw6 wc
        have x0_6 : w6.cell? ⟨w.heap.size, 0, none⟩ = some (.int .i64 h.n) := hH6.cell 0
        have x1_6 : w6.cell? ⟨w.heap.size, 1, none⟩ = some (.int .i64 h.c) := hH6.cell 1
        have c0_6 : w6.cell? ⟨w.heap.size + 1, 0, none⟩ = some (.int .i64 c.i) := hC6.cell 0
        have c1_6 : w6.cell? ⟨w.heap.size + 1, 1, none⟩ = some (.int .i64 c.c) := hC6.cell 1
        have c2_6 : w6.cell? ⟨w.heap.size + 1, 2, none⟩ = some (.int .i64 c.g) := hC6.cell 2
        have c3_6 : w6.cell? ⟨w.heap.size + 1, 3, none⟩ = some (.int .i64 c.t) := hC6.cell 3
        have c4_6 : w6.cell? ⟨w.heap.size + 1, 4, none⟩ = some (.int .i64 c.r) := hC6.cell 4
        have p0_6 : w6.cell? ⟨w.heap.size + 2, 0, none⟩ = some (.int .i64 i) := hP6.cell 0
        have p1_6 : w6.cell? ⟨w.heap.size + 2, 1, none⟩ = some (.int .i64 j) := hP6.cell 1
        have p2_6 : w6.cell? ⟨w.heap.size + 2, 2, none⟩ = some (.slice A pa.length ca) := hP6.cell 2
        have p3_6 : w6.cell? ⟨w.heap.size + 2, 3, none⟩ = some (.slice B sp.length cb) := hP6.cell 3
        have l1_6 := hH6.lt
        have l2_6 := hC6.lt
        have l3_6 := hP6.lt
        go_upto_region 9 with fail
        go_cut [11, 10] (fun p er wx => er = .int .i64 ey ∧ ∃ g, p = .pointer (some ⟨g, 0, none⟩) ∧ Bk wx g 35 (Tr.c4 y) ∧ Bk wx w.heap.size 39 (hcl h) ∧ Bk wx (w.heap.size + 1) 46 #[.int .i64 c.i, .int .i64 c.c, .int .i64 c.g, .int .i64 c.t, .int .i64 c.r] ∧ Bk wx (w.heap.size + 2) 49 #[.int .i64 i, .int .i64 j, .slice A pa.length ca, .slice B sp.length cb] ∧ Below w.heap.size w wx)
        case first =>
          go_region_held3 (fun w' => w'.cell? ⟨w.heap.size, 0, none⟩ = some (.int .i64 h.n) ∧ w'.cell? ⟨w.heap.size, 1, none⟩ = some (.int .i64 h.c) ∧ w'.cell? ⟨w.heap.size + 1, 0, none⟩ = some (.int .i64 c.i) ∧ w'.cell? ⟨w.heap.size + 1, 1, none⟩ = some (.int .i64 c.c) ∧ w'.cell? ⟨w.heap.size + 1, 2, none⟩ = some (.int .i64 c.g) ∧ w'.cell? ⟨w.heap.size + 1, 3, none⟩ = some (.int .i64 c.t) ∧ w'.cell? ⟨w.heap.size + 1, 4, none⟩ = some (.int .i64 c.r) ∧ w'.cell? ⟨w.heap.size + 2, 0, none⟩ = some (.int .i64 i) ∧ w'.cell? ⟨w.heap.size + 2, 1, none⟩ = some (.int .i64 j) ∧ w'.cell? ⟨w.heap.size + 2, 2, none⟩ = some (.slice A pa.length ca) ∧ w'.cell? ⟨w.heap.size + 2, 3, none⟩ = some (.slice B sp.length cb)) ((refine ⟨?_, ?_, ?_, ?_, ?_, ?_, ?_, ?_, ?_, ?_, ?_⟩ <;> (repeat (first | with_reducible assumption | with_reducible refine Mw.cell_alloc ?_ _ | with_reducible refine Mw.cell_drew ?_ | with_reducible refine Mw.cell_far ?_ (by first | assumption | omega | (simp; omega)) _)))) (first | (go_at_call 22; (with_reducible refine (rdigest_any c _).mono ?_); rintro e w7 ⟨rfl, hb7⟩; have hH7 : Bk w7 w.heap.size 39 (hcl h) := Mw.Bk.old (by (repeat (first | with_reducible assumption | ((with_reducible refine Mw.Bk.new' ?_); (first | rfl | (simp; done) | (simp; omega))) | with_reducible refine Mw.Bk.alloc ?_ _ | with_reducible refine Mw.Bk.drew ?_ | with_reducible refine Mw.Bk.drewN ?_ _ | with_reducible refine Mw.Bk.set4 (a0 := .int .u32 0) (a1 := .int .u32 0) (a2 := .int .u32 0) (a3 := .int .u32 0) ?_ | ((with_reducible refine Mw.Bk.far ?_ ?_ _); rotate_left 1; focus (first | omega | (simp; done) | (simp; omega))) | with_reducible refine Mw.Bk.old ?_ (by assumption)))) hb7; have hC7 : Bk w7 (w.heap.size + 1) 46 #[.int .i64 c.i, .int .i64 c.c, .int .i64 c.g, .int .i64 c.t, .int .i64 c.r] := Mw.Bk.old (by (repeat (first | with_reducible assumption | ((with_reducible refine Mw.Bk.new' ?_); (first | rfl | (simp; done) | (simp; omega))) | with_reducible refine Mw.Bk.alloc ?_ _ | with_reducible refine Mw.Bk.drew ?_ | with_reducible refine Mw.Bk.drewN ?_ _ | with_reducible refine Mw.Bk.set4 (a0 := .int .u32 0) (a1 := .int .u32 0) (a2 := .int .u32 0) (a3 := .int .u32 0) ?_ | ((with_reducible refine Mw.Bk.far ?_ ?_ _); rotate_left 1; focus (first | omega | (simp; done) | (simp; omega))) | with_reducible refine Mw.Bk.old ?_ (by assumption)))) hb7; have hP7 : Bk w7 (w.heap.size + 2) 49 #[.int .i64 i, .int .i64 j, .slice A pa.length ca, .slice B sp.length cb] := Mw.Bk.old (by (repeat (first | with_reducible assumption | ((with_reducible refine Mw.Bk.new' ?_); (first | rfl | (simp; done) | (simp; omega))) | with_reducible refine Mw.Bk.alloc ?_ _ | with_reducible refine Mw.Bk.drew ?_ | with_reducible refine Mw.Bk.drewN ?_ _ | with_reducible refine Mw.Bk.set4 (a0 := .int .u32 0) (a1 := .int .u32 0) (a2 := .int .u32 0) (a3 := .int .u32 0) ?_ | ((with_reducible refine Mw.Bk.far ?_ ?_ _); rotate_left 1; focus (first | omega | (simp; done) | (simp; omega))) | with_reducible refine Mw.Bk.old ?_ (by assumption)))) hb7; have hc7 : Below w.heap.size w w7 := bl_trans (by (repeat (first | with_reducible exact Below.refl _ _ | with_reducible refine bl_drewN ?_ _ | with_reducible refine Below.drew ?_ | with_reducible refine bl_alloc ?_ _ | with_reducible refine Below.alloc ?_ (by first | omega | (simp; done) | (simp; omega)) _ | with_reducible refine Below.setCell ?_ (by first | omega | (simp; done) | (simp; omega)) _ | with_reducible assumption))) hb7; have x0_7 : w7.cell? ⟨w.heap.size, 0, none⟩ = some (.int .i64 h.n) := hH7.cell 0; have x1_7 : w7.cell? ⟨w.heap.size, 1, none⟩ = some (.int .i64 h.c) := hH7.cell 1; have c0_7 : w7.cell? ⟨w.heap.size + 1, 0, none⟩ = some (.int .i64 c.i) := hC7.cell 0; have c1_7 : w7.cell? ⟨w.heap.size + 1, 1, none⟩ = some (.int .i64 c.c) := hC7.cell 1; have c2_7 : w7.cell? ⟨w.heap.size + 1, 2, none⟩ = some (.int .i64 c.g) := hC7.cell 2; have c3_7 : w7.cell? ⟨w.heap.size + 1, 3, none⟩ = some (.int .i64 c.t) := hC7.cell 3; have c4_7 : w7.cell? ⟨w.heap.size + 1, 4, none⟩ = some (.int .i64 c.r) := hC7.cell 4; have p0_7 : w7.cell? ⟨w.heap.size + 2, 0, none⟩ = some (.int .i64 i) := hP7.cell 0; have p1_7 : w7.cell? ⟨w.heap.size + 2, 1, none⟩ = some (.int .i64 j) := hP7.cell 1; have p2_7 : w7.cell? ⟨w.heap.size + 2, 2, none⟩ = some (.slice A pa.length ca) := hP7.cell 2; have p3_7 : w7.cell? ⟨w.heap.size + 2, 3, none⟩ = some (.slice B sp.length cb) := hP7.cell 3; have l1_7 := hH7.lt; have l2_7 := hC7.lt; have l3_7 := hP7.lt; (try have hN76 : Bk w7 w6.heap.size 35 #[.int .u32 0, .int .u32 0, .int .u32 0, .int .u32 0] := Mw.Bk.old (by first | exact (Mw.Bk.new _ _ _).drew | exact hN66.drew | exact hN66) hb7); (try (have mN76 := hN76.lt; obtain ⟨⟨a0, a1, a2, a3⟩, b0, b1, b2, b3⟩ := Tr.bk4 hN76))) | (go_at_call 65; (with_reducible refine (rleaf_any _ _).mono ?_); rintro e w8 ⟨rfl, hb8⟩; have hH8 : Bk w8 w.heap.size 39 (hcl h) := Mw.Bk.old (by (repeat (first | with_reducible assumption | ((with_reducible refine Mw.Bk.new' ?_); (first | rfl | (simp; done) | (simp; omega))) | with_reducible refine Mw.Bk.alloc ?_ _ | with_reducible refine Mw.Bk.drew ?_ | with_reducible refine Mw.Bk.drewN ?_ _ | with_reducible refine Mw.Bk.set4 (a0 := .int .u32 0) (a1 := .int .u32 0) (a2 := .int .u32 0) (a3 := .int .u32 0) ?_ | ((with_reducible refine Mw.Bk.far ?_ ?_ _); rotate_left 1; focus (first | omega | (simp; done) | (simp; omega))) | with_reducible refine Mw.Bk.old ?_ (by assumption)))) hb8; have hC8 : Bk w8 (w.heap.size + 1) 46 #[.int .i64 c.i, .int .i64 c.c, .int .i64 c.g, .int .i64 c.t, .int .i64 c.r] := Mw.Bk.old (by (repeat (first | with_reducible assumption | ((with_reducible refine Mw.Bk.new' ?_); (first | rfl | (simp; done) | (simp; omega))) | with_reducible refine Mw.Bk.alloc ?_ _ | with_reducible refine Mw.Bk.drew ?_ | with_reducible refine Mw.Bk.drewN ?_ _ | with_reducible refine Mw.Bk.set4 (a0 := .int .u32 0) (a1 := .int .u32 0) (a2 := .int .u32 0) (a3 := .int .u32 0) ?_ | ((with_reducible refine Mw.Bk.far ?_ ?_ _); rotate_left 1; focus (first | omega | (simp; done) | (simp; omega))) | with_reducible refine Mw.Bk.old ?_ (by assumption)))) hb8; have hP8 : Bk w8 (w.heap.size + 2) 49 #[.int .i64 i, .int .i64 j, .slice A pa.length ca, .slice B sp.length cb] := Mw.Bk.old (by (repeat (first | with_reducible assumption | ((with_reducible refine Mw.Bk.new' ?_); (first | rfl | (simp; done) | (simp; omega))) | with_reducible refine Mw.Bk.alloc ?_ _ | with_reducible refine Mw.Bk.drew ?_ | with_reducible refine Mw.Bk.drewN ?_ _ | with_reducible refine Mw.Bk.set4 (a0 := .int .u32 0) (a1 := .int .u32 0) (a2 := .int .u32 0) (a3 := .int .u32 0) ?_ | ((with_reducible refine Mw.Bk.far ?_ ?_ _); rotate_left 1; focus (first | omega | (simp; done) | (simp; omega))) | with_reducible refine Mw.Bk.old ?_ (by assumption)))) hb8; have hc8 : Below w.heap.size w w8 := bl_trans (by (repeat (first | with_reducible exact Below.refl _ _ | with_reducible refine bl_drewN ?_ _ | with_reducible refine Below.drew ?_ | with_reducible refine bl_alloc ?_ _ | with_reducible refine Below.alloc ?_ (by first | omega | (simp; done) | (simp; omega)) _ | with_reducible refine Below.setCell ?_ (by first | omega | (simp; done) | (simp; omega)) _ | with_reducible assumption))) hb8; have x0_8 : w8.cell? ⟨w.heap.size, 0, none⟩ = some (.int .i64 h.n) := hH8.cell 0; have x1_8 : w8.cell? ⟨w.heap.size, 1, none⟩ = some (.int .i64 h.c) := hH8.cell 1; have c0_8 : w8.cell? ⟨w.heap.size + 1, 0, none⟩ = some (.int .i64 c.i) := hC8.cell 0; have c1_8 : w8.cell? ⟨w.heap.size + 1, 1, none⟩ = some (.int .i64 c.c) := hC8.cell 1; have c2_8 : w8.cell? ⟨w.heap.size + 1, 2, none⟩ = some (.int .i64 c.g) := hC8.cell 2; have c3_8 : w8.cell? ⟨w.heap.size + 1, 3, none⟩ = some (.int .i64 c.t) := hC8.cell 3; have c4_8 : w8.cell? ⟨w.heap.size + 1, 4, none⟩ = some (.int .i64 c.r) := hC8.cell 4; have p0_8 : w8.cell? ⟨w.heap.size + 2, 0, none⟩ = some (.int .i64 i) := hP8.cell 0; have p1_8 : w8.cell? ⟨w.heap.size + 2, 1, none⟩ = some (.int .i64 j) := hP8.cell 1; have p2_8 : w8.cell? ⟨w.heap.size + 2, 2, none⟩ = some (.slice A pa.length ca) := hP8.cell 2; have p3_8 : w8.cell? ⟨w.heap.size + 2, 3, none⟩ = some (.slice B sp.length cb) := hP8.cell 3; have l1_8 := hH8.lt; have l2_8 := hC8.lt; have l3_8 := hP8.lt; (try have hN86 : Bk w8 w6.heap.size 35 #[.int .u32 0, .int .u32 0, .int .u32 0, .int .u32 0] := Mw.Bk.old (by first | exact (Mw.Bk.new _ _ _).drew | exact hN76.drew | exact hN76) hb8); (try (have mN86 := hN86.lt; obtain ⟨⟨a0, a1, a2, a3⟩, b0, b1, b2, b3⟩ := Tr.bk4 hN86)); (try have hN87 : Bk w8 w7.heap.size 35 #[.int .u32 0, .int .u32 0, .int .u32 0, .int .u32 0] := Mw.Bk.old (by first | exact (Mw.Bk.new _ _ _).drew | exact hN77.drew | exact hN77) hb8); (try (have mN87 := hN87.lt; obtain ⟨⟨a0, a1, a2, a3⟩, b0, b1, b2, b3⟩ := Tr.bk4 hN87))) | (go_at_call 64; (with_reducible refine (HL2.out _ (by (repeat (first | with_reducible exact Below.refl _ _ | with_reducible refine bl_drewN ?_ _ | with_reducible refine Below.drew ?_ | with_reducible refine bl_alloc ?_ _ | with_reducible refine Below.alloc ?_ (by first | omega | (simp; done) | (simp; omega)) _ | with_reducible refine Below.setCell ?_ (by first | omega | (simp; done) | (simp; omega)) _ | with_reducible assumption)))).mono ?_); rintro e w9 ⟨rfl, hb9⟩; have hH9 : Bk w9 w.heap.size 39 (hcl h) := Mw.Bk.old (by (repeat (first | with_reducible assumption | ((with_reducible refine Mw.Bk.new' ?_); (first | rfl | (simp; done) | (simp; omega))) | with_reducible refine Mw.Bk.alloc ?_ _ | with_reducible refine Mw.Bk.drew ?_ | with_reducible refine Mw.Bk.drewN ?_ _ | with_reducible refine Mw.Bk.set4 (a0 := .int .u32 0) (a1 := .int .u32 0) (a2 := .int .u32 0) (a3 := .int .u32 0) ?_ | ((with_reducible refine Mw.Bk.far ?_ ?_ _); rotate_left 1; focus (first | omega | (simp; done) | (simp; omega))) | with_reducible refine Mw.Bk.old ?_ (by assumption)))) hb9; have hC9 : Bk w9 (w.heap.size + 1) 46 #[.int .i64 c.i, .int .i64 c.c, .int .i64 c.g, .int .i64 c.t, .int .i64 c.r] := Mw.Bk.old (by (repeat (first | with_reducible assumption | ((with_reducible refine Mw.Bk.new' ?_); (first | rfl | (simp; done) | (simp; omega))) | with_reducible refine Mw.Bk.alloc ?_ _ | with_reducible refine Mw.Bk.drew ?_ | with_reducible refine Mw.Bk.drewN ?_ _ | with_reducible refine Mw.Bk.set4 (a0 := .int .u32 0) (a1 := .int .u32 0) (a2 := .int .u32 0) (a3 := .int .u32 0) ?_ | ((with_reducible refine Mw.Bk.far ?_ ?_ _); rotate_left 1; focus (first | omega | (simp; done) | (simp; omega))) | with_reducible refine Mw.Bk.old ?_ (by assumption)))) hb9; have hP9 : Bk w9 (w.heap.size + 2) 49 #[.int .i64 i, .int .i64 j, .slice A pa.length ca, .slice B sp.length cb] := Mw.Bk.old (by (repeat (first | with_reducible assumption | ((with_reducible refine Mw.Bk.new' ?_); (first | rfl | (simp; done) | (simp; omega))) | with_reducible refine Mw.Bk.alloc ?_ _ | with_reducible refine Mw.Bk.drew ?_ | with_reducible refine Mw.Bk.drewN ?_ _ | with_reducible refine Mw.Bk.set4 (a0 := .int .u32 0) (a1 := .int .u32 0) (a2 := .int .u32 0) (a3 := .int .u32 0) ?_ | ((with_reducible refine Mw.Bk.far ?_ ?_ _); rotate_left 1; focus (first | omega | (simp; done) | (simp; omega))) | with_reducible refine Mw.Bk.old ?_ (by assumption)))) hb9; have hc9 : Below w.heap.size w w9 := bl_trans (by (repeat (first | with_reducible exact Below.refl _ _ | with_reducible refine bl_drewN ?_ _ | with_reducible refine Below.drew ?_ | with_reducible refine bl_alloc ?_ _ | with_reducible refine Below.alloc ?_ (by first | omega | (simp; done) | (simp; omega)) _ | with_reducible refine Below.setCell ?_ (by first | omega | (simp; done) | (simp; omega)) _ | with_reducible assumption))) hb9; have x0_9 : w9.cell? ⟨w.heap.size, 0, none⟩ = some (.int .i64 h.n) := hH9.cell 0; have x1_9 : w9.cell? ⟨w.heap.size, 1, none⟩ = some (.int .i64 h.c) := hH9.cell 1; have c0_9 : w9.cell? ⟨w.heap.size + 1, 0, none⟩ = some (.int .i64 c.i) := hC9.cell 0; have c1_9 : w9.cell? ⟨w.heap.size + 1, 1, none⟩ = some (.int .i64 c.c) := hC9.cell 1; have c2_9 : w9.cell? ⟨w.heap.size + 1, 2, none⟩ = some (.int .i64 c.g) := hC9.cell 2; have c3_9 : w9.cell? ⟨w.heap.size + 1, 3, none⟩ = some (.int .i64 c.t) := hC9.cell 3; have c4_9 : w9.cell? ⟨w.heap.size + 1, 4, none⟩ = some (.int .i64 c.r) := hC9.cell 4; have p0_9 : w9.cell? ⟨w.heap.size + 2, 0, none⟩ = some (.int .i64 i) := hP9.cell 0; have p1_9 : w9.cell? ⟨w.heap.size + 2, 1, none⟩ = some (.int .i64 j) := hP9.cell 1; have p2_9 : w9.cell? ⟨w.heap.size + 2, 2, none⟩ = some (.slice A pa.length ca) := hP9.cell 2; have p3_9 : w9.cell? ⟨w.heap.size + 2, 3, none⟩ = some (.slice B sp.length cb) := hP9.cell 3; have l1_9 := hH9.lt; have l2_9 := hC9.lt; have l3_9 := hP9.lt; (try have hN96 : Bk w9 w6.heap.size 35 #[.int .u32 0, .int .u32 0, .int .u32 0, .int .u32 0] := Mw.Bk.old (by first | exact (Mw.Bk.new _ _ _).drew | exact hN86.drew | exact hN86) hb9); (try (have mN96 := hN96.lt; obtain ⟨⟨a0, a1, a2, a3⟩, b0, b1, b2, b3⟩ := Tr.bk4 hN96)); (try have hN97 : Bk w9 w7.heap.size 35 #[.int .u32 0, .int .u32 0, .int .u32 0, .int .u32 0] := Mw.Bk.old (by first | exact (Mw.Bk.new _ _ _).drew | exact hN87.drew | exact hN87) hb9); (try (have mN97 := hN97.lt; obtain ⟨⟨a0, a1, a2, a3⟩, b0, b1, b2, b3⟩ := Tr.bk4 hN97)); (try have hN98 : Bk w9 w8.heap.size 35 #[.int .u32 0, .int .u32 0, .int .u32 0, .int .u32 0] := Mw.Bk.old (by first | exact (Mw.Bk.new _ _ _).drew | exact hN88.drew | exact hN88) hb9); (try (have mN98 := hN98.lt; obtain ⟨⟨a0, a1, a2, a3⟩, b0, b1, b2, b3⟩ := Tr.bk4 hN98))))
          all_goals
            go_wp2_with fail
            go_meet
            exact ⟨rfl, _, rfl, by (repeat (first | with_reducible assumption | ((with_reducible refine Mw.Bk.new' ?_); (first | rfl | (simp; done) | (simp; omega))) | with_reducible refine Mw.Bk.alloc ?_ _ | with_reducible refine Mw.Bk.drew ?_ | with_reducible refine Mw.Bk.drewN ?_ _ | with_reducible refine Mw.Bk.set4 (a0 := .int .u32 0) (a1 := .int .u32 0) (a2 := .int .u32 0) (a3 := .int .u32 0) ?_ | ((with_reducible refine Mw.Bk.far ?_ ?_ _); rotate_left 1; focus (first | omega | (simp; done) | (simp; omega))) | with_reducible refine Mw.Bk.old ?_ (by assumption))), by (repeat (first | with_reducible assumption | ((with_reducible refine Mw.Bk.new' ?_); (first | rfl | (simp; done) | (simp; omega))) | with_reducible refine Mw.Bk.alloc ?_ _ | with_reducible refine Mw.Bk.drew ?_ | with_reducible refine Mw.Bk.drewN ?_ _ | with_reducible refine Mw.Bk.set4 (a0 := .int .u32 0) (a1 := .int .u32 0) (a2 := .int .u32 0) (a3 := .int .u32 0) ?_ | ((with_reducible refine Mw.Bk.far ?_ ?_ _); rotate_left 1; focus (first | omega | (simp; done) | (simp; omega))) | with_reducible refine Mw.Bk.old ?_ (by assumption))), by (repeat (first | with_reducible assumption | ((with_reducible refine Mw.Bk.new' ?_); (first | rfl | (simp; done) | (simp; omega))) | with_reducible refine Mw.Bk.alloc ?_ _ | with_reducible refine Mw.Bk.drew ?_ | with_reducible refine Mw.Bk.drewN ?_ _ | with_reducible refine Mw.Bk.set4 (a0 := .int .u32 0) (a1 := .int .u32 0) (a2 := .int .u32 0) (a3 := .int .u32 0) ?_ | ((with_reducible refine Mw.Bk.far ?_ ?_ _); rotate_left 1; focus (first | omega | (simp; done) | (simp; omega))) | with_reducible refine Mw.Bk.old ?_ (by assumption))), by (repeat (first | with_reducible assumption | ((with_reducible refine Mw.Bk.new' ?_); (first | rfl | (simp; done) | (simp; omega))) | with_reducible refine Mw.Bk.alloc ?_ _ | with_reducible refine Mw.Bk.drew ?_ | with_reducible refine Mw.Bk.drewN ?_ _ | with_reducible refine Mw.Bk.set4 (a0 := .int .u32 0) (a1 := .int .u32 0) (a2 := .int .u32 0) (a3 := .int .u32 0) ?_ | ((with_reducible refine Mw.Bk.far ?_ ?_ _); rotate_left 1; focus (first | omega | (simp; done) | (simp; omega))) | with_reducible refine Mw.Bk.old ?_ (by assumption))), by (repeat (first | with_reducible exact Below.refl _ _ | with_reducible refine bl_drewN ?_ _ | with_reducible refine Below.drew ?_ | with_reducible refine bl_alloc ?_ _ | with_reducible refine Below.alloc ?_ (by first | omega | (simp; done) | (simp; omega)) _ | with_reducible refine Below.setCell ?_ (by first | omega | (simp; done) | (simp; omega)) _ | with_reducible assumption))⟩
        case rest =>
          clear x0_6 x1_6 c0_6 c1_6 c2_6 c3_6 c4_6 p0_6 p1_6 p2_6 p3_6 l1_6 l2_6 l3_6 hH6 hC6 hP6 hb6
          obtain ⟨rfl, g, rfl, hX, hH, hC, hP, hb⟩ := hcut
          obtain ⟨⟨k0, k1, k2, k3⟩, -⟩ := Tr.bk4 hX
          have y0 : wc.cell? ⟨w.heap.size, 6, none⟩ = some (.int .u32 h.l.1) := hH.cell 6
          have y1 : wc.cell? ⟨w.heap.size, 7, none⟩ = some (.int .u32 h.l.2.1) := hH.cell 7
          have y2 : wc.cell? ⟨w.heap.size, 8, none⟩ = some (.int .u32 h.l.2.2.1) := hH.cell 8
          have y3 : wc.cell? ⟨w.heap.size, 9, none⟩ = some (.int .u32 h.l.2.2.2) := hH.cell 9
          have m0 := hX.lt
          have m1 := hH.lt
          by_cases q0 : ey = 0
          · have t0 : (ey != 0) = false := by rw [q0]; rfl
            by_cases q1 : eqb y h.l = true
            · have H4 := Lib.hid (H3.out.trans (if_neg (by rw [D2.out, q0, q1]; simp)))
              clear H3 D2 q0
              go_wp2_with fail
              go_ret
              exact ⟨by rw [H4.out] <;> rfl, hb⟩
            · have q2 : eqb y h.l = false := Bool.eq_false_iff.2 q1
              have HF : Hid (vrf p h c i j pa sp = 46) := H3.out.trans (if_pos (D2.out.trans (by rw [q2, Bool.and_false])))
              clear H3 D2
              go_wp2_with fail
              go_ret
              exact ⟨by rw [HF.out] <;> rfl, hb⟩
          · have t0 : (ey != 0) = true := bne_iff_ne.2 q0
            have HF : Hid (vrf p h c i j pa sp = 46) := H3.out.trans (if_pos (D2.out.trans (by rw [decide_eq_false q0, Bool.false_and])))
            clear H3 D2
            go_wp2_with fail
            go_ret
            exact ⟨by rw [HF.out] <;> rfl, hb⟩
      · have q2 : eqb x h.r = false := Bool.eq_false_iff.2 q1
        have HF : Hid (vrf p h c i j pa sp = 44) := H2.out.trans (if_pos (D1.out.trans (by rw [q2, Bool.and_false])))
        clear H2 D1
        go_wp2_with fail
        go_ret
        exact ⟨by rw [HF.out] <;> rfl, hb⟩
    · have t0 : (ex != 0) = true := bne_iff_ne.2 q0
      have HF : Hid (vrf p h c i j pa sp = 44) := H2.out.trans (if_pos (D1.out.trans (by rw [decide_eq_false q0, Bool.false_and])))
      clear H2 D1
      go_wp2_with fail
      go_ret
      exact ⟨by rw [HF.out] <;> rfl, hb⟩
end Go.Proofs.YtdikoffppjoomaaGreat.Ct
