/- Walk: the reference's Prove. -/
import Derived.Test.YtdikoffppjoomaaGreatVD
import Derived.Test.YtdikoffppjoomaaGreatCY
import Derived.WalkKit
import Derived.WalkSpells
import Derived.WalkLawsBesides
import Derived.Deep.QuietTactic
import Derived.BigQuiet
import Derived.Deep.Draws
import Derived.Deep.AppendLies
import Derived.Laws.OwnMore
import Derived.Laws.BytesArg
import Derived.Lib.Hide
import Derived.Deep.LoopGhost
import Derived.Deep.RegionLaw
namespace Go.Proofs.YtdikoffppjoomaaGreat.Ct
open Go.RowKit Go.Proofs.YtdikoffppjoomaaGreat.Dg
open Go.Proofs.YtdikoffppjoomaaGreat.Mw (I64 ret_int ret_bool Bk bl_trans own_ints RdI RdR ge ge_lt gi ge_mem own_rows Away)
open Go.Proofs.YtdikoffppjoomaaGreat.Tr (RdD leaf root path pathE rpath_any)
set_option linter.unusedVariables false
set_option linter.unusedSimpArgs false
set_option maxRecDepth 100000

theorem V_at {l : List Le} (h : V l) {n : Nat} (hn : n < l.length) : nxt (l.take n) (gE l n) = 0 := by
  have h1 := chN_zero (show n + 1 ≤ l.length by omega) h
  rw [chN_succ] at h1
  by_cases h2 : chN l n = 0
  · rwa [if_pos h2] at h1
  · rw [if_neg h2] at h1; exact absurd h1 h2
theorem ix_lt {l : List Le} (hV : V l) {a b : Nat} (hab : a < b) (hb : b < l.length) (ka : (ge l a).k = 0) (kb : (ge l b).k = 0) (e : (ge l a).f.i = (ge l b).f.i) : False := by
  have I := inv_of (V_take hV b)
  have hga : ge (l.take b) a = ge l a := by
    unfold Mw.ge
    rw [List.getD_eq_getElem?_getD, List.getD_eq_getElem?_getD, List.getElem?_take_of_lt hab]
  have hm : ge l a ∈ l.take b := by rw [← hga]; exact ge_mem _ _ (by simp; omega)
  have h3 := I.mem _ hm ka
  obtain ⟨_, _, h⟩ := nxt_0 (V_at hV hb)
  rcases h with ⟨_, _, hn, _⟩ | ⟨hk1, _⟩
  · rw [e] at h3
    have hn' : fnd (l.take b) (ge l b).f.i = none := hn
    rw [hn'] at h3; cases h3
  · have : (ge l b).k = 1 := hk1
    omega
theorem ix_one {l : List Le} (hV : V l) {a b : Nat} (ha : a < l.length) (hb : b < l.length) (ka : (ge l a).k = 0) (kb : (ge l b).k = 0) (e : (ge l a).f.i = (ge l b).f.i) : a = b := by
  rcases Nat.lt_trichotomy a b with h | h | h
  · exact (ix_lt hV h hb ka kb e).elim
  · exact h
  · exact (ix_lt hV h ha kb ka e.symm).elim
/-- The number of the place, once it has been passed. -/
def lx (k X : Nat) : Int := if k ≤ X then 0 else X
theorem lx_0 (X : Nat) : lx 0 X = 0 := if_pos (Nat.zero_le _)
theorem lx_hit (X : Nat) : lx (X + 1) X = X := if_neg (by omega)
theorem lx_skip {k X : Nat} (h : k ≠ X) : lx (k + 1) X = lx k X := by
  unfold lx
  by_cases h1 : k ≤ X
  · rw [if_pos (by omega), if_pos h1]
  · rw [if_neg (by omega), if_neg h1]
theorem lx_end {n X : Nat} (h : X < n) : lx n X = X := if_neg (by omega)

set_option maxHeartbeats 8000000 in
theorem rprove_any (l : List Le) (A : Option Addr) (c : Nat) (id : Int) (w : World) (hr : RdL w A l) (hlc : l.length ≤ c) : Calls Tryz.prog 35 #[.slice A l.length c, .int .i64 id] w (PvE (prv l id) w) := by
  have hr1 := hr.alloc (.cells #[.int .i64 0, .int .i64 0, .slice none 0 0, .slice none 0 0] 49)
  have HR := Lib.hid (rcheck_any l A c _ hr1 hlc)
  have HR1 := Lib.hid hr1
  have hZ : Bk (w.alloc (.cells #[.int .i64 0, .int .i64 0, .slice none 0 0, .slice none 0 0] 49)) w.heap.size 49 #[.int .i64 0, .int .i64 0, .slice none 0 0, .slice none 0 0] := Mw.Bk.new _ _ _
  have hb0 : Below w.heap.size w (w.alloc (.cells #[.int .i64 0, .int .i64 0, .slice none 0 0, .slice none 0 0] 49)) := by (repeat (first | with_reducible exact Below.refl _ _ | with_reducible refine bl_drewN ?_ _ | with_reducible refine Below.drew ?_ | with_reducible refine bl_alloc ?_ _ | with_reducible refine Below.alloc ?_ (by first | omega | (simp; done) | (simp; omega)) _ | with_reducible refine Below.setCell ?_ (by first | omega | (simp; done) | (simp; omega)) _ | with_reducible assumption))
  clear hr hr1
  by_cases hz : chk l = 0
  · have z0 : (chk l != 0) = false := by rw [hz]; rfl
    have hV := V_chk hz
    have hle := (inv_of hV).len
    have hlcu := len_curN l l.length
    have hcl : (cur l).length ≤ 256 := by unfold cur; omega
    have HF : Hid (∀ W : World, RdL W A l → Calls Tryz.prog 78 #[.slice A l.length c, .int .i64 id] W fun e w' => e = .returned (.tuple #[cfv ((fnd l id).getD default), .bool (fnd l id).isSome]) ∧ Below W.heap.size W w') := fun W h => rfind_any l A c id W h (by simp only [maxLen]; omega)
    have HGn : Hid (∀ W : World, RdL W A l → Calls Tryz.prog 71 #[.slice A l.length c, .int .i64 id] W fun e w' => e = .returned (.bool (gon l id)) ∧ Below W.heap.size W w') := fun W h => rgone_any l A c id W h (by simp only [maxLen]; omega)
    have HCu : Hid (∀ W : World, RdL W A l → Calls Tryz.prog 27 #[.slice A l.length c] W (CE (cur l) W)) := fun W h => by
      have := rcurrent_any l A c W h hlc
      rwa [crr_0 hz] at this
    have HDx1 : Hid (∀ W : World, RdL W A l → Calls Tryz.prog 75 #[.slice A l.length c] W (DE (l.map dgE) W)) := fun W h => rentries_any l A c W (by omega) h
    have HDx2 : Hid (∀ W : World, RdL W A l → Calls Tryz.prog 76 #[.slice A l.length c] W (DE ((cur l).map dgC) W)) := fun W h => by
      have := rlive_any l A c W h hlc
      rwa [crr_0 hz] at this
    have HS : Hid (prv l id = if (fnd l id).isSome = true then (if gon l id = true then (pv0, 46) else (pvo l id, 0)) else (pv0, 4)) := if_pos hz
    have HV := Lib.hid hV
    clear hz hV hlcu
    cases hf : (fnd l id).isSome
    · rw [hf] at HF HS
      have HS2 : Hid (prv l id = (pv0, 4)) := HS.out.trans (if_neg (by simp))
      clear HS hf
      go_enter Tryz.func35, Tryz.ntmps35
      go_wp2_with fail
      refine HR.out.mono ?_
      rintro e w1 ⟨rfl, hb1⟩
      have hZ1 := hZ.old hb1
      have hr2 := HR1.out.old hb1
      have hb2 := bl_trans hb0 hb1
      clear hb0 hb1 hZ HR HR1
      go_wp2_with fail
      refine (HF.out _ hr2).mono ?_
      rintro e w2 ⟨rfl, hb3⟩
      have hZ2 := hZ1.old hb3
      have hb4 := bl_trans hb2 hb3
      generalize (fnd l id).getD default = cq
      clear hb2 hb3 hZ1 hr2 HF HGn HCu HDx1 HDx2
      go_upto_region 5 with fail
      have hZ3 := hZ2.alloc (.cells #[.int .i64 cq.i, .int .i64 cq.c, .int .i64 cq.g, .int .i64 cq.t, .int .i64 cq.r] 46)
      have hb5 := Mw.bl_alloc hb4 (.cells #[.int .i64 cq.i, .int .i64 cq.c, .int .i64 cq.g, .int .i64 cq.t, .int .i64 cq.r] 46)
      clear hZ2 hb4
      generalize w2.alloc (.cells #[.int .i64 cq.i, .int .i64 cq.c, .int .i64 cq.g, .int .i64 cq.t, .int .i64 cq.r] 46) = w3 at *
      have yf := fun o => hZ3.frozen o
      have y0 := hZ3.cell 0
      have y1 := hZ3.cell 1
      have y2 := hZ3.cell 2
      have y3 := hZ3.cell 3
      have yl := hZ3.lt
      go_wp2_with fail
      clear yf y0 y1 y2 y3 yl
      have hBz := (Mw.Bk.set (Mw.Bk.set (Mw.Bk.set (Mw.Bk.set hZ3 0 (.int .i64 0)) 1 (.int .i64 0)) 2 (.slice none 0 0)) 3 (.slice none 0 0))
      simp only [List.setIfInBounds_toArray, List.set_cons_zero, List.set_cons_succ] at hBz
      have hbz : Below w.heap.size w ((((w3.setCell ⟨w.heap.size, 0, none⟩ (.int .i64 0)).setCell ⟨w.heap.size, 1, none⟩ (.int .i64 0)).setCell ⟨w.heap.size, 2, none⟩ (.slice none 0 0)).setCell ⟨w.heap.size, 3, none⟩ (.slice none 0 0)) := by (repeat (first | with_reducible exact Below.refl _ _ | with_reducible refine bl_drewN ?_ _ | with_reducible refine Below.drew ?_ | with_reducible refine bl_alloc ?_ _ | with_reducible refine Below.alloc ?_ (by first | omega | (simp; done) | (simp; omega)) _ | with_reducible refine Below.setCell ?_ (by first | omega | (simp; done) | (simp; omega)) _ | with_reducible assumption))
      generalize ((((w3.setCell ⟨w.heap.size, 0, none⟩ (.int .i64 0)).setCell ⟨w.heap.size, 1, none⟩ (.int .i64 0)).setCell ⟨w.heap.size, 2, none⟩ (.slice none 0 0)).setCell ⟨w.heap.size, 3, none⟩ (.slice none 0 0)) = wz at *
      have k0 := hBz.cell 0
      have k1 := hBz.cell 1
      have k2 := hBz.cell 2
      have k3 := hBz.cell 3
      refine bodyPost_ret (v := .tuple #[.agg #[.int .i64 0, .int .i64 0, .slice none 0 0, .slice none 0 0], .int .i64 (4)]) (by simp [results, Tryz.results35, go_sem, k0, k1, k2, k3]) rfl ⟨none, 0, none, 0, by rw [HS2.out] <;> rfl, by rw [HS2.out] <;> exact Nat.le_refl _, by simp [maxLen], by rw [HS2.out] <;> exact RdD.nil _ _, by rw [HS2.out] <;> exact Nat.le_refl _, by simp [maxLen], by rw [HS2.out] <;> exact RdD.nil _ _, hbz⟩
    have HFd := Lib.hid hf
    rw [hf] at HF HS
    have HS2 := Lib.hid (HS.out.trans (if_pos rfl))
    clear HS hf
    cases hg : gon l id
    · rw [hg] at HGn HS2
      have HS3 : Hid (prv l id = (pvo l id, 0)) := HS2.out.trans (if_neg (by simp))
      have HG := Lib.hid hg
      clear HS2 hg
      obtain ⟨ca, hca⟩ := Option.isSome_iff_exists.1 HFd.out
      have hci := fnd_id hca
      have hmc : ca ∈ cur l := (mem_cur HV.out).2 (cu_some.2 ⟨by rw [hci]; exact hca, by rw [hci]; exact HG.out⟩)
      obtain ⟨X, hX, eX, gX⟩ := at_index HV.out hmc
      obtain ⟨Y, hY, eY, gY⟩ := at_place HV.out hmc
      rw [hci] at eX eY
      have HIX : Hid (∀ k, k < l.length → (ge l k).k = 0 → (ge l k).f.i = id → k = X) := fun k hk h1 h2 => ix_one HV.out hk hX h1 (by rw [gX]) (by rw [gX, h2, hci])
      have HHX : Hid ((ge l X).k = 0 ∧ (ge l X).f.i = id) := ⟨by rw [gX], by rw [gX]; exact hci⟩
      have HIY : Hid (∀ k, k < (cur l).length → (ge (cur l) k).i = id → k = Y) := fun k hk h2 => by
        have hA : Asc (cur l) := asc_curN HV.out (Nat.le_refl _)
        have h3 : (ge (cur l) Y).i = id := by rw [gY]; exact hci
        rcases Nat.lt_trichotomy k Y with h | h | h
        · have := asc_lt hA h hY; omega
        · exact h
        · have := asc_lt hA h hk; omega
      have HHY : Hid ((ge (cur l) Y).i = id) := by unfold Hid; rw [gY]; exact hci
      have HPO : Hid (pvo l id = ⟨(X : Int), (Y : Int), (pathE (l.map dgE) X).1, (pathE ((cur l).map dgC) Y).1⟩) := by
        unfold Hid pvo
        rw [eX, eY]
      clear eX eY gX gY hci hca HFd HG HV
      have hdl : (l.map dgE).length = l.length := List.length_map ..
      have hel : ((cur l).map dgC).length = (cur l).length := List.length_map ..
      generalize l.map dgE = ds at hdl HPO HDx1
      generalize (cur l).map dgC = es at hel HPO HDx2
      have hp1 := pathE_ok ds X (by omega) (by omega) (by omega)
      have hp2 := pathE_ok es Y (by omega) (by omega) (by omega)
      have HP1 : Hid (∀ (W : World) (D : Option Addr) (cD : Nat), ds.length ≤ cD → cD ≤ maxLen → RdD W D ds → Calls Tryz.prog 15 #[.slice D ds.length cD, .int .i64 X] W (Tr.PE (pathE ds X) W)) := fun W D cD h1 h2 h3 => rpath_any ds D cD X W (by omega) h1 h2 h3
      have HP2 : Hid (∀ (W : World) (D : Option Addr) (cD : Nat), es.length ≤ cD → cD ≤ maxLen → RdD W D es → Calls Tryz.prog 15 #[.slice D es.length cD, .int .i64 Y] W (Tr.PE (pathE es Y) W)) := fun W D cD h1 h2 h3 => rpath_any es D cD Y W (by omega) h1 h2 h3
      generalize pathE ds X = PP at hp1 HP1 HPO
      generalize pathE es Y = QQ at hp2 HP2 HPO
      obtain ⟨PA, pe⟩ := PP
      obtain ⟨QA, qe⟩ := QQ
      obtain rfl : pe = 0 := hp1
      obtain rfl : qe = 0 := hp2
      generalize cur l = cc at *
      clear hmc hdl hel
      go_enter Tryz.func35, Tryz.ntmps35
      go_wp2_with fail
      refine HR.out.mono ?_
      rintro e w1 ⟨rfl, hb1⟩
      have hZ1 := hZ.old hb1
      have hr2 := HR1.out.old hb1
      have hb2 := bl_trans hb0 hb1
      clear hb0 hb1 hZ HR HR1
      go_wp2_with fail
      refine (HF.out _ hr2).mono ?_
      rintro e w2 ⟨rfl, hb3⟩
      have hZ2 := hZ1.old hb3
      have hr3 := hr2.old hb3
      have hb4 := bl_trans hb2 hb3
      generalize (fnd l id).getD default = cq
      clear hb2 hb3 hZ1 hr2 HF
      go_upto_region 5 with fail
      have hZ3 := hZ2.alloc (.cells #[.int .i64 cq.i, .int .i64 cq.c, .int .i64 cq.g, .int .i64 cq.t, .int .i64 cq.r] 46)
      have hr4 := hr3.alloc (.cells #[.int .i64 cq.i, .int .i64 cq.c, .int .i64 cq.g, .int .i64 cq.t, .int .i64 cq.r] 46)
      have hb5 := Mw.bl_alloc hb4 (.cells #[.int .i64 cq.i, .int .i64 cq.c, .int .i64 cq.g, .int .i64 cq.t, .int .i64 cq.r] 46)
      clear hZ2 hb4 hr3
      generalize w2.alloc (.cells #[.int .i64 cq.i, .int .i64 cq.c, .int .i64 cq.g, .int .i64 cq.t, .int .i64 cq.r] 46) = w3 at *
      go_wp2_with fail
      refine (HGn.out _ hr4).mono ?_
      rintro e w4 ⟨rfl, hb6⟩
      have hZ4 := hZ3.old hb6
      have hr5 := hr4.old hb6
      have hb7 := bl_trans hb5 hb6
      have HLr : Hid (RdL w4 A l) := hr5
      clear hb5 hb6 hZ3 hr4 hr5 HGn
      have hN0 : Bk (w4.alloc (.cells #[.int .i64 0, .int .i64 0, .slice none 0 0, .slice none 0 0] 49)) w4.heap.size 49 #[.int .i64 (lx 0 X), .int .i64 0, .slice none 0 0, .slice none 0 0] := by rw [lx_0]; exact Mw.Bk.new _ _ _
      go_wp2_with fail
      go_loopw [10] (fun i wr => ∃ k : Nat, k ≤ l.length ∧ i = .int .i64 k ∧ Bk wr w4.heap.size 49 #[.int .i64 (lx k X), .int .i64 0, .slice none 0 0, .slice none 0 0] ∧ Below w4.heap.size w4 wr) (fun i _ => l.length - (RowKit.intOf i).toNat)
      case atStart => exact ⟨0, by omega, rfl, hN0, Mw.bl_alloc (Below.refl _ _) _⟩
      case round =>
        clear hN0
        obtain ⟨k, hk, rfl, hN, hb⟩ := hrel
        by_cases hlt : k < l.length
        · obtain ⟨b, off, rfl, hbl, c0, c1, c2, c3, c4, c5⟩ := le_at (HLr.out.old hb) k hlt
          have hlt' : (k : Int) < l.length := by omega
          have q1 : (0 : Int) ≤ (k : Int) := by omega
          have hu := HIX.out k hlt
          have HX := HHX
          by_cases h0 : (ge l k).k = 0
          · have t0 : ((ge l k).k == 0) = true := beq_iff_eq.2 h0
            by_cases h1 : (ge l k).f.i = id
            · have t1 : ((ge l k).f.i == id) = true := beq_iff_eq.2 h1
              obtain rfl : k = X := hu h0 h1
              have nf := fun o => hN.frozen o
              have n0 := hN.cell 0
              have nl := hN.lt
              have hN1 := hN.set 0 (.int .i64 k)
              simp only [List.setIfInBounds_toArray, List.set_cons_zero, List.set_cons_succ] at hN1
              have Hlx := Lib.hid (lx_hit k)
              clear h0 h1 hu
              go_wp2_with fail
              go_roundw
              case rel => exact ⟨k + 1, by omega, by go_num, by rw [Hlx.out]; exact hN1, hb.setCell (p := ⟨w4.heap.size, 0, none⟩) (Nat.le_refl _) (.int .i64 k)⟩
              case measure => simp [RowKit.intOf]; omega
            · have t1 : ((ge l k).f.i == id) = false := beq_eq_false_iff_ne.2 h1
              have Hlx : Hid (lx (k + 1) X = lx k X) := lx_skip (fun e => h1 (by rw [e]; exact HX.out.2))
              clear h0 h1 hu HX
              go_wp2_with fail
              go_roundw
              case rel => exact ⟨k + 1, by omega, by go_num, by rw [Hlx.out]; exact hN, hb⟩
              case measure => simp [RowKit.intOf]; omega
          · have t0 : ((ge l k).k == 0) = false := beq_eq_false_iff_ne.2 h0
            have Hlx : Hid (lx (k + 1) X = lx k X) := lx_skip (fun e => h0 (by rw [e]; exact HX.out.1))
            clear h0 hu HX
            go_wp2_with fail
            go_roundw
            case rel => exact ⟨k + 1, by omega, by go_num, by rw [Hlx.out]; exact hN, hb⟩
            case measure => simp [RowKit.intOf]; omega
        have hlx : lx k X = X := lx_end (by omega)
        rw [hlx] at hN
        have u0 : ¬ (k : Int) < l.length := by omega
        obtain ⟨wa, rfl⟩ : ∃ wo, wo = wr := ⟨_, rfl⟩
        clear hlx HIX HHX hlt
        go_wp2_with fail
        clear u0
        refine (HCu.out _ (HLr.out.old hb)).mono ?_
        rintro e w5 ⟨v, rfl, hown, hb9⟩
        obtain ⟨B, cB, rfl, hcB, hrB, hBw⟩ := own_rows cfl_len (by omega) hown
        have hN5 : Bk w5 w4.heap.size 49 #[.int .i64 X, .int .i64 (lx 0 Y), .slice none 0 0, .slice none 0 0] := by rw [lx_0]; exact hN.old hb9
        have hb10 : Below w4.heap.size w4 w5 := bl_trans hb hb9
        have hAw : Hid (Away w4.heap.size B) := fun a ha => by have := (hBw a ha).1; have := hN.lt; omega
        clear hown hN hb9 hb HCu hcB hBw
        go_wp2_with fail
        go_loopw [12] (fun i wv => ∃ k : Nat, k ≤ cc.length ∧ i = .int .i64 k ∧ Bk wv w4.heap.size 49 #[.int .i64 X, .int .i64 (lx k Y), .slice none 0 0, .slice none 0 0] ∧ RdC wv B cc ∧ Below w4.heap.size w4 wv) (fun i _ => cc.length - (RowKit.intOf i).toNat)
        case atStart => exact ⟨0, by omega, rfl, hN5, hrB, hb10⟩
        case round =>
          clear hN5 hrB hb10
          obtain ⟨k, hk, rfl, hN, hC, hbD⟩ := hrel
          by_cases hlt : k < cc.length
          · have HC := Lib.hid hC
            obtain ⟨b, off, rfl, hbl, c0, c1, c2, c3, c4⟩ := cf_at hC k hlt
            have hlt' : (k : Int) < cc.length := by omega
            have q1 : (0 : Int) ≤ (k : Int) := by omega
            have hu := HIY.out k hlt
            clear hC
            by_cases h1 : (ge cc k).i = id
            · have t1 : ((ge cc k).i == id) = true := beq_iff_eq.2 h1
              obtain rfl : k = Y := hu h1
              have nf := fun o => hN.frozen o
              have n0 := hN.cell 1
              have nl := hN.lt
              have hN1 := hN.set 1 (.int .i64 k)
              simp only [List.setIfInBounds_toArray, List.set_cons_zero, List.set_cons_succ] at hN1
              have Hlx := Lib.hid (lx_hit k)
              have HC1 : Hid (RdC (wr.setCell ⟨w4.heap.size, 1, none⟩ (.int .i64 k)) (some ⟨b, off, none⟩) cc) := HC.out.far hAw.out (.int .i64 k)
              clear h1 hu
              go_wp2_with fail
              go_roundw
              case rel => exact ⟨k + 1, by omega, by go_num, by rw [Hlx.out]; exact hN1, HC1.out, hbD.setCell (p := ⟨w4.heap.size, 1, none⟩) (Nat.le_refl _) (.int .i64 k)⟩
              case measure => simp [RowKit.intOf]; omega
            · have t1 : ((ge cc k).i == id) = false := beq_eq_false_iff_ne.2 h1
              have Hlx : Hid (lx (k + 1) Y = lx k Y) := lx_skip (fun e => h1 (by rw [e]; exact HHY.out))
              clear h1 hu
              go_wp2_with fail
              go_roundw
              case rel => exact ⟨k + 1, by omega, by go_num, by rw [Hlx.out]; exact hN, HC.out, hbD⟩
              case measure => simp [RowKit.intOf]; omega
          have hlx : lx k Y = Y := lx_end (by omega)
          rw [hlx] at hN
          have u0 : ¬ (k : Int) < cc.length := by omega
          obtain ⟨w7, rfl⟩ : ∃ wo, wo = wr := ⟨_, rfl⟩
          have hN3 := hN
          have hZ8 := hZ4.old hbD
          have hlt4 : w.heap.size < w4.heap.size := hZ4.lt
          have HD1 := Lib.hid (show ∀ W : World, Below w4.heap.size w4 W → _ from fun W hb => HDx1.out W (HLr.out.old hb))
          have HD2 := Lib.hid (show ∀ W : World, Below w4.heap.size w4 W → _ from fun W hb => HDx2.out W (HLr.out.old hb))
          clear hlx HIY HHY hlt hC hN hZ4
          have hbE := bl_trans hb7 hbD
          have hN := hN3
          have n0 := hN.cell 0
          have n1 := hN.cell 1
          have nl := hN.lt
          have HDa : Hid (∀ W : World, Below w7.heap.size w7 W → Calls Tryz.prog 75 #[.slice A l.length c] W (DE ds W)) := fun W hb => HD1.out W (bl_trans hbD hb)
          clear hN3
          go_wp2_with fail
          go_region_law (first
            | (go_simp
               go_at_call 75
               refine (HDa.out _ (by first | exact Below.refl _ _ | exact (Below.refl _ _).drew)).mono ?_
               rintro e w8 ⟨D, cD, rfl, hcD, hmD, hrD, hba⟩
               have hNa : Bk _ w4.heap.size 49 _ := (by first | exact hN.old hba | exact hN.drew.old hba)
               have n0 := hNa.cell 0
               have n1 := hNa.cell 1
               have nl := hNa.lt)
            | (go_simp
               go_at_call 15
               refine (HP1.out _ D cD hcD hmD (by first | exact hrD | exact hrD.drew)).mono ?_
               rintro e w9 ⟨E, cE, rfl, hcE, hmE, hrE, hbb⟩
               have hNb : Bk _ w4.heap.size 49 _ := (by first | exact hNa.old hbb | exact hNa.drew.old hbb)
               have nf := fun o => hNb.frozen o
               have m2 := hNb.cell 2
               have ml := hNb.lt))
          all_goals
            have hbab : Below w7.heap.size w7 w8 := ⟨hba.os, hba.tape, hba.output, hba.size, hba.block⟩
            have hZ9 := (hZ8.old hbab).old hbb
            have hbF := bl_trans (bl_trans hbE hbab) hbb
            have hbG := bl_trans (bl_trans hbD hbab) hbb
            have hrP : RdD w9 E PA := hrE
            have hcP : PA.length ≤ cE := hcE
            have hN4 := hNb.set 2 (.slice E PA.length cE)
            simp only [List.setIfInBounds_toArray, List.set_cons_zero, List.set_cons_succ] at hN4
            have hZ10 := hZ9.far (p := ⟨w4.heap.size, 2, none⟩) (Nat.ne_of_lt hlt4) (.slice E PA.length cE)
            have hrP2 := rdd_pf hNb (nou _ _ _ _ _ _ _ _) hrP 2 (.slice E PA.length cE)
            have hbH := hbF.setCell (p := ⟨w4.heap.size, 2, none⟩) (show w.heap.size ≤ w4.heap.size by omega) (.slice E PA.length cE)
            have hbI := hbG.setCell (p := ⟨w4.heap.size, 2, none⟩) (Nat.le_refl _) (.slice E PA.length cE)
            clear hba hbb hbab hbD hbE hbF hbG hrE hcE hrP hNb hNa hN hZ8 hZ9 nf m2 ml n0 n1 nl HDa HP1 hcD hmD hrD
            generalize w9.setCell ⟨w4.heap.size, 2, none⟩ (.slice E PA.length cE) = wa at *
            have hN := hN4
            have n0 := hN.cell 0
            have n1 := hN.cell 1
            have nl := hN.lt
            have HDb : Hid (∀ W : World, Below wa.heap.size wa W → Calls Tryz.prog 76 #[.slice A l.length c] W (DE es W)) := fun W hb => HD2.out W (bl_trans hbI hb)
            clear hN4 HD1 HD2
            go_wp2_with fail
            go_region_law (first
              | (go_simp
                 go_at_call 76
                 refine (HDb.out _ (by first | exact Below.refl _ _ | exact (Below.refl _ _).drew)).mono ?_
                 rintro e wb ⟨G, cG, rfl, hcG, hmG, hrG, hba⟩
                 have hNa : Bk _ w4.heap.size 49 _ := (by first | exact hN.old hba | exact hN.drew.old hba)
                 have n0 := hNa.cell 0
                 have n1 := hNa.cell 1
                 have nl := hNa.lt)
              | (go_simp
                 go_at_call 15
                 refine (HP2.out _ G cG hcG hmG (by first | exact hrG | exact hrG.drew)).mono ?_
                 rintro e wc ⟨F, cF, rfl, hcF, hmF, hrF, hbb⟩
                 have hNb : Bk _ w4.heap.size 49 _ := (by first | exact hNa.old hbb | exact hNa.drew.old hbb)
                 have nf := fun o => hNb.frozen o
                 have m2 := hNb.cell 3
                 have ml := hNb.lt))
            all_goals
              have hbab : Below wa.heap.size wa wb := ⟨hba.os, hba.tape, hba.output, hba.size, hba.block⟩
              have hZ11 := (hZ10.old hbab).old hbb
              have hrP3 := (hrP2.old hbab).old hbb
              have hbF := bl_trans (bl_trans hbH hbab) hbb
              have hrQ : RdD wc F QA := hrF
              have hcQ : QA.length ≤ cF := hcF
              have hN4 := hNb.set 3 (.slice F QA.length cF)
              simp only [List.setIfInBounds_toArray, List.set_cons_zero, List.set_cons_succ] at hN4
              have hZ12 := hZ11.far (p := ⟨w4.heap.size, 3, none⟩) (Nat.ne_of_lt hlt4) (.slice F QA.length cF)
              have hrP4 := rdd_pf hNb (nou _ _ _ _ _ _ _ _) hrP3 3 (.slice F QA.length cF)
              have hrQ2 := rdd_pf hNb (nou _ _ _ _ _ _ _ _) hrQ 3 (.slice F QA.length cF)
              have hbJ := hbF.setCell (p := ⟨w4.heap.size, 3, none⟩) (show w.heap.size ≤ w4.heap.size by omega) (.slice F QA.length cF)
              clear hba hbb hbab hbH hbI hbF hrF hcF hrQ hrP2 hrP3 hNb hNa hN hZ10 hZ11 nf m2 ml n0 n1 nl HDb HP2 hcG hmG hrG
              generalize wc.setCell ⟨w4.heap.size, 3, none⟩ (.slice F QA.length cF) = wd at *
              have n0 := hN4.cell 0
              have n1 := hN4.cell 1
              have n2 := hN4.cell 2
              have n3 := hN4.cell 3
              have nl := hN4.lt
              have yf := fun o => hZ12.frozen o
              have y0 := hZ12.cell 0
              have y1 := hZ12.cell 1
              have y2 := hZ12.cell 2
              have y3 := hZ12.cell 3
              have yl := hZ12.lt
              go_wp2_with fail
              clear yf y0 y1 y2 y3 yl n0 n1 n2 n3 nl
              have hBz := (Mw.Bk.set (Mw.Bk.set (Mw.Bk.set (Mw.Bk.set hZ12 0 (.int .i64 X)) 1 (.int .i64 Y)) 2 (.slice E PA.length cE)) 3 (.slice F QA.length cF))
              simp only [List.setIfInBounds_toArray, List.set_cons_zero, List.set_cons_succ] at hBz
              have hbz : Below w.heap.size w ((((wd.setCell ⟨w.heap.size, 0, none⟩ (.int .i64 X)).setCell ⟨w.heap.size, 1, none⟩ (.int .i64 Y)).setCell ⟨w.heap.size, 2, none⟩ (.slice E PA.length cE)).setCell ⟨w.heap.size, 3, none⟩ (.slice F QA.length cF)) := by (repeat (first | with_reducible exact Below.refl _ _ | with_reducible refine bl_drewN ?_ _ | with_reducible refine Below.drew ?_ | with_reducible refine bl_alloc ?_ _ | with_reducible refine Below.alloc ?_ (by first | omega | (simp; done) | (simp; omega)) _ | with_reducible refine Below.setCell ?_ (by first | omega | (simp; done) | (simp; omega)) _ | with_reducible assumption))
              have hrPz := rdd_pf4 (a' := X) (b' := Y) (A' := E) (n' := PA.length) (c' := cE) (B' := F) (m' := QA.length) (d' := cF) hZ12 hrP4
              have hrQz := rdd_pf4 (a' := X) (b' := Y) (A' := E) (n' := PA.length) (c' := cE) (B' := F) (m' := QA.length) (d' := cF) hZ12 hrQ2
              clear hZ12 hrP4 hrQ2 hbJ hN4
              generalize ((((wd.setCell ⟨w.heap.size, 0, none⟩ (.int .i64 X)).setCell ⟨w.heap.size, 1, none⟩ (.int .i64 Y)).setCell ⟨w.heap.size, 2, none⟩ (.slice E PA.length cE)).setCell ⟨w.heap.size, 3, none⟩ (.slice F QA.length cF)) = wz at *
              have k0 := hBz.cell 0
              have k1 := hBz.cell 1
              have k2 := hBz.cell 2
              have k3 := hBz.cell 3
              refine bodyPost_ret (v := .tuple #[.agg #[.int .i64 X, .int .i64 Y, .slice E PA.length cE, .slice F QA.length cF], .int .i64 0]) (by simp [results, Tryz.results35, go_sem, k0, k1, k2, k3]) rfl ?_
              rw [HS3.out, HPO.out]
              exact ⟨E, cE, F, cF, rfl, hcP, hmE, hrPz, hcQ, hmF, hrQz, hbz⟩
    · rw [hg] at HGn HS2
      have HS3 : Hid (prv l id = (pv0, 46)) := HS2.out.trans (if_pos rfl)
      clear HS2 hg
      go_enter Tryz.func35, Tryz.ntmps35
      go_wp2_with fail
      refine HR.out.mono ?_
      rintro e w1 ⟨rfl, hb1⟩
      have hZ1 := hZ.old hb1
      have hr2 := HR1.out.old hb1
      have hb2 := bl_trans hb0 hb1
      clear hb0 hb1 hZ HR HR1
      go_wp2_with fail
      refine (HF.out _ hr2).mono ?_
      rintro e w2 ⟨rfl, hb3⟩
      have hZ2 := hZ1.old hb3
      have hr3 := hr2.old hb3
      have hb4 := bl_trans hb2 hb3
      generalize (fnd l id).getD default = cq
      clear hb2 hb3 hZ1 hr2 HF HCu HDx1 HDx2 HFd
      go_upto_region 5 with fail
      have hZ2b := hZ2.alloc (.cells #[.int .i64 cq.i, .int .i64 cq.c, .int .i64 cq.g, .int .i64 cq.t, .int .i64 cq.r] 46)
      have hr4 := hr3.alloc (.cells #[.int .i64 cq.i, .int .i64 cq.c, .int .i64 cq.g, .int .i64 cq.t, .int .i64 cq.r] 46)
      have hb5 := Mw.bl_alloc hb4 (.cells #[.int .i64 cq.i, .int .i64 cq.c, .int .i64 cq.g, .int .i64 cq.t, .int .i64 cq.r] 46)
      clear hZ2 hb4 hr3
      generalize w2.alloc (.cells #[.int .i64 cq.i, .int .i64 cq.c, .int .i64 cq.g, .int .i64 cq.t, .int .i64 cq.r] 46) = w2b at *
      go_wp2_with fail
      refine (HGn.out _ hr4).mono ?_
      rintro e w3 ⟨rfl, hb6⟩
      have hZ3 := hZ2b.old hb6
      have hb7 := bl_trans hb5 hb6
      clear hb5 hb6 hZ2b hr4 HGn
      have yf := fun o => hZ3.frozen o
      have y0 := hZ3.cell 0
      have y1 := hZ3.cell 1
      have y2 := hZ3.cell 2
      have y3 := hZ3.cell 3
      have yl := hZ3.lt
      go_wp2_with fail
      clear yf y0 y1 y2 y3 yl
      have hBz := (Mw.Bk.set (Mw.Bk.set (Mw.Bk.set (Mw.Bk.set hZ3 0 (.int .i64 0)) 1 (.int .i64 0)) 2 (.slice none 0 0)) 3 (.slice none 0 0))
      simp only [List.setIfInBounds_toArray, List.set_cons_zero, List.set_cons_succ] at hBz
      have hbz : Below w.heap.size w ((((w3.setCell ⟨w.heap.size, 0, none⟩ (.int .i64 0)).setCell ⟨w.heap.size, 1, none⟩ (.int .i64 0)).setCell ⟨w.heap.size, 2, none⟩ (.slice none 0 0)).setCell ⟨w.heap.size, 3, none⟩ (.slice none 0 0)) := by (repeat (first | with_reducible exact Below.refl _ _ | with_reducible refine bl_drewN ?_ _ | with_reducible refine Below.drew ?_ | with_reducible refine bl_alloc ?_ _ | with_reducible refine Below.alloc ?_ (by first | omega | (simp; done) | (simp; omega)) _ | with_reducible refine Below.setCell ?_ (by first | omega | (simp; done) | (simp; omega)) _ | with_reducible assumption))
      generalize ((((w3.setCell ⟨w.heap.size, 0, none⟩ (.int .i64 0)).setCell ⟨w.heap.size, 1, none⟩ (.int .i64 0)).setCell ⟨w.heap.size, 2, none⟩ (.slice none 0 0)).setCell ⟨w.heap.size, 3, none⟩ (.slice none 0 0)) = wz at *
      have k0 := hBz.cell 0
      have k1 := hBz.cell 1
      have k2 := hBz.cell 2
      have k3 := hBz.cell 3
      refine bodyPost_ret (v := .tuple #[.agg #[.int .i64 0, .int .i64 0, .slice none 0 0, .slice none 0 0], .int .i64 (46)]) (by simp [results, Tryz.results35, go_sem, k0, k1, k2, k3]) rfl ⟨none, 0, none, 0, by rw [HS3.out] <;> rfl, by rw [HS3.out] <;> exact Nat.le_refl _, by simp [maxLen], by rw [HS3.out] <;> exact RdD.nil _ _, by rw [HS3.out] <;> exact Nat.le_refl _, by simp [maxLen], by rw [HS3.out] <;> exact RdD.nil _ _, hbz⟩
  · have z0 : (chk l != 0) = true := bne_iff_ne.2 hz
    have HS : Hid (prv l id = (pv0, chk l)) := if_neg hz
    clear hz
    go_enter Tryz.func35, Tryz.ntmps35
    go_wp2_with fail
    refine HR.out.mono ?_
    rintro e w3 ⟨rfl, hb1⟩
    have hZ3 := hZ.old hb1
    have hb2 := bl_trans hb0 hb1
    clear hb0 hb1 hZ HR
    have yf := fun o => hZ3.frozen o
    have y0 := hZ3.cell 0
    have y1 := hZ3.cell 1
    have y2 := hZ3.cell 2
    have y3 := hZ3.cell 3
    have yl := hZ3.lt
    go_wp2_with fail
    clear yf y0 y1 y2 y3 yl
    have hBz := (Mw.Bk.set (Mw.Bk.set (Mw.Bk.set (Mw.Bk.set hZ3 0 (.int .i64 0)) 1 (.int .i64 0)) 2 (.slice none 0 0)) 3 (.slice none 0 0))
    simp only [List.setIfInBounds_toArray, List.set_cons_zero, List.set_cons_succ] at hBz
    have hbz : Below w.heap.size w ((((w3.setCell ⟨w.heap.size, 0, none⟩ (.int .i64 0)).setCell ⟨w.heap.size, 1, none⟩ (.int .i64 0)).setCell ⟨w.heap.size, 2, none⟩ (.slice none 0 0)).setCell ⟨w.heap.size, 3, none⟩ (.slice none 0 0)) := by (repeat (first | with_reducible exact Below.refl _ _ | with_reducible refine bl_drewN ?_ _ | with_reducible refine Below.drew ?_ | with_reducible refine bl_alloc ?_ _ | with_reducible refine Below.alloc ?_ (by first | omega | (simp; done) | (simp; omega)) _ | with_reducible refine Below.setCell ?_ (by first | omega | (simp; done) | (simp; omega)) _ | with_reducible assumption))
    generalize ((((w3.setCell ⟨w.heap.size, 0, none⟩ (.int .i64 0)).setCell ⟨w.heap.size, 1, none⟩ (.int .i64 0)).setCell ⟨w.heap.size, 2, none⟩ (.slice none 0 0)).setCell ⟨w.heap.size, 3, none⟩ (.slice none 0 0)) = wz at *
    have k0 := hBz.cell 0
    have k1 := hBz.cell 1
    have k2 := hBz.cell 2
    have k3 := hBz.cell 3
    refine bodyPost_ret (v := .tuple #[.agg #[.int .i64 0, .int .i64 0, .slice none 0 0, .slice none 0 0], .int .i64 (chk l)]) (by simp [results, Tryz.results35, go_sem, k0, k1, k2, k3]) rfl ⟨none, 0, none, 0, by rw [HS.out] <;> rfl, by rw [HS.out] <;> exact Nat.le_refl _, by simp [maxLen], by rw [HS.out] <;> exact RdD.nil _ _, by rw [HS.out] <;> exact Nat.le_refl _, by simp [maxLen], by rw [HS.out] <;> exact RdD.nil _ _, hbz⟩
end Go.Proofs.YtdikoffppjoomaaGreat.Ct
