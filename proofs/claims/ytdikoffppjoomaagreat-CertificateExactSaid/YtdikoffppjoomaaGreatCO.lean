/- Walks: what a head says; closures and searches; what leads to a root. -/
import Derived.Test.YtdikoffppjoomaaGreatCN
import Derived.Test.YtdikoffppjoomaaGreatSC
import Derived.WalkKit
import Derived.WalkSpells
import Derived.WalkLawsBesides
import Derived.Deep.QuietTactic
import Derived.BigQuiet
import Derived.Deep.Draws
import Derived.Deep.AppendLies
import Derived.Laws.OwnMore
import Derived.Laws.BytesArg
import Derived.Lib.Hide
import Derived.Deep.LoopGhost
import Derived.OwnWalk
import Derived.Maps.AppendAt
namespace Go.Proofs.YtdikoffppjoomaaGreat.Ct
open Go.RowKit Go.Proofs.YtdikoffppjoomaaGreat.Dg
open Go.Proofs.YtdikoffppjoomaaGreat.Mw (I64 ret_int ret_bool Bk bl_trans own_ints RdI RdR ge ge_lt gi ge_mem own_rows wpList_append_run)
open Go.Proofs.YtdikoffppjoomaaGreat.Tr (RdD leaf leadE plead_any)
open Go.Proofs.YtdikoffppjoomaaGreat.Sg (Wd app app_zero app_succ app_len infoInt sgv)
set_option linter.unusedVariables false
set_option linter.unusedSimpArgs false
set_option maxRecDepth 100000

/-- A head: the number of entries and of current certificates, the two roots, the signature. -/
structure He where
  n : Int
  c : Int
  r : St
  l : St
  R : Int
  S : Int
def hcl (h : He) : Array Value := #[.int .i64 h.n, .int .i64 h.c, .int .u32 h.r.1, .int .u32 h.r.2.1, .int .u32 h.r.2.2.1, .int .u32 h.r.2.2.2, .int .u32 h.l.1, .int .u32 h.l.2.1, .int .u32 h.l.2.2.1, .int .u32 h.l.2.2.2, .int .i64 h.R, .int .i64 h.S]
abbrev hev (h : He) : Value := .agg #[.int .i64 h.n, .int .i64 h.c, .int .u32 h.r.1, .int .u32 h.r.2.1, .int .u32 h.r.2.2.1, .int .u32 h.r.2.2.2, .int .u32 h.l.1, .int .u32 h.l.2.1, .int .u32 h.l.2.2.1, .int .u32 h.l.2.2.2, .int .i64 h.R, .int .i64 h.S]
/-- The numbers of a head that are signed. -/
def nmH (h : He) : List Int := app (app [h.n] h.r 4 ++ [h.c]) h.l 4
noncomputable def dgH (h : He) : St := words 7 (nw (nmH h) (nmH h).length)
theorem nmH_len (h : He) : (nmH h).length = 10 := by unfold nmH; rw [app_len _ _ _ (by omega), List.length_append, app_len _ _ _ (by omega)]; rfl
theorem appInt {w : World} {base : Nat} {v : Value} {xs : List Int} {x : Int} {g n : Nat} (hown : w.ownsRow base 3 1 v n (xs.map (Value.int .i64))) (hn : n = xs.length) (hc : w.cell? ⟨g, 0, none⟩ = some (.int .i64 x)) (h1 : xs.length ≤ 100000) (hb : base ≤ w.heap.size) :
    ∃ v' w', (Builtin.append_ #[22, 22] 22 #[v, .slice (some ⟨g, 0, none⟩) 1 1]).run Tryz.prog w = .ok v' w' ∧ w'.ownsRow base 3 1 v' (n + 1) ((xs ++ [x]).map (Value.int .i64)) ∧ w.grownBy w' v.ownBlock := by
  obtain ⟨i0, hi0, hz0, hz1, hz2⟩ := info_parts infoInt
  subst hn
  obtain ⟨v', w', h2, h3, h4, -, -⟩ := run_append_own_at (P := Tryz.prog) (w := w) base 22 22 3 i0 (.int .i64 0) 1 8 Tryz.underlying22 hi0 hz0 hz1 hz2 rfl (by decide) v xs.length (xs.map (Value.int .i64)) hown ⟨g, 0, none⟩ 1 1 [.int .i64 x] rfl (fun j u hu => by
    have hj : j = 0 := by
      rcases Nat.lt_or_ge j 1 with h | h
      · omega
      · rw [List.getElem?_eq_none (by simpa using h)] at hu; cases hu
    subst hj
    have : (⟨g, 0, none⟩ : Addr).add 0 = ⟨g, 0, none⟩ := rfl
    rw [this]
    simp at hu
    rw [← hu]; exact hc) (by simp [Value.oneCell']) (by simp only [maxLen]; omega) (by omega) hb
  exact ⟨v', w', h2, by rw [List.map_append]; exact h3, h4⟩
set_option maxHeartbeats 4000000 in
theorem sealing_any (h : He) (hr : Wd h.r) (hl : Wd h.l) (w : World) : Calls Tryz.prog 53 #[hev h] w fun e w' => e = .returned (dv (dgH h)) ∧ Below w.heap.size w w' := by
  have Hr := Lib.hid hr
  have Hl := Lib.hid hl
  clear hr hl
  go_enter Tryz.func53, Tryz.ntmps53
  go_wp2_with fail
  have HO0 : Hid ((((w.alloc (.cells (hcl h) 39)).alloc (.cells #[.int .u32 0, .int .u32 0, .int .u32 0, .int .u32 0] 35)).alloc (.cells #[.int .i64 h.n] 3)).ownsRow (w.heap.size + 2) 3 1 (.slice (some ⟨w.heap.size + 2, 0, none⟩) 1 1) ([h.n].length + 0) ([h.n].map (Value.int .i64))) := Sg.bk_owns (Mw.Bk.new' (by simp)) rfl (by simp [maxLen]) (Nat.le_refl _) rfl
  have HB0 : Hid (Bk (((w.alloc (.cells (hcl h) 39)).alloc (.cells #[.int .u32 0, .int .u32 0, .int .u32 0, .int .u32 0] 35)).alloc (.cells #[.int .i64 h.n] 3)) w.heap.size 39 (hcl h)) := ((Mw.Bk.new _ _ _).alloc _).alloc _
  have HC0 : Hid (Bk (((w.alloc (.cells (hcl h) 39)).alloc (.cells #[.int .u32 0, .int .u32 0, .int .u32 0, .int .u32 0] 35)).alloc (.cells #[.int .i64 h.n] 3)) (w.heap.size + 1) 35 #[.int .u32 0, .int .u32 0, .int .u32 0, .int .u32 0]) := (Mw.Bk.new' (by simp)).alloc _
  have hbl0 : Below w.heap.size w (((w.alloc (.cells (hcl h) 39)).alloc (.cells #[.int .u32 0, .int .u32 0, .int .u32 0, .int .u32 0] 35)).alloc (.cells #[.int .i64 h.n] 3)) := by (repeat (first | with_reducible exact Below.refl _ _ | with_reducible refine bl_drewN ?_ _ | with_reducible refine Below.drew ?_ | with_reducible refine bl_alloc ?_ _ | with_reducible refine Below.alloc ?_ (by first | omega | (simp; done) | (simp; omega)) _ | with_reducible refine Below.setCell ?_ (by first | omega | (simp; done) | (simp; omega)) _ | with_reducible assumption))
  go_loopw [3, 13] (fun v j wr => ∃ k : Nat, k ≤ 4 ∧ j = .int .i64 k ∧ wr.ownsRow (w.heap.size + 2) 3 1 v ([h.n].length + k) ((app [h.n] h.r k).map (Value.int .i64)) ∧ Bk wr w.heap.size 39 (hcl h) ∧ Bk wr (w.heap.size + 1) 35 #[.int .u32 0, .int .u32 0, .int .u32 0, .int .u32 0] ∧ Below w.heap.size w wr) (fun _ j _ => 4 - (RowKit.intOf j).toNat)
  case atStart => exact ⟨0, by omega, rfl, by rw [app_zero]; exact HO0.out, HB0.out, HC0.out, hbl0⟩
  case round =>
    clear HO0 HB0 HC0 hbl0
    obtain ⟨k, hk, rfl, hown, hB, hC, hb⟩ := hrel
    have hz := hC.lt
    by_cases hlt : k < 4
    · have hix := index4 h.r k hlt
      have hbk : decide ((k : Int) < 4) = true := decide_eq_true (by omega)
      obtain ⟨e0, e1⟩ := (Sg.Wd.at Hr.out k)
      obtain ⟨v2, w2, hrun, hown2, hg2⟩ := appInt (x := wrd h.r k) (g := wr.heap.size) (hown.alloc (.cells #[.int .i64 (wrd h.r k)] 3)) (by rw [app_len _ _ _ hk]) (by simp) (by rw [app_len _ _ _ hk, List.length_singleton]; omega) (by simp; omega)
      have hb2 : Below w.heap.size w w2 := Below.grown (Mw.bl_alloc hb _) hg2 (by have := hb.size; simp; omega) (fun q hq => by have := (hown.lt q hq).1; omega)
      have hB2 : Bk w2 w.heap.size 39 (hcl h) := Mw.Bk.grown (hB.alloc _) hg2 (fun e => by have := (hown.lt _ e.symm).1; omega)
      have hC2 : Bk w2 (w.heap.size + 1) 35 _ := Mw.Bk.grown (hC.alloc _) hg2 (fun e => by have := (hown.lt _ e.symm).1; omega)
      have HO : Hid (w2.ownsRow (w.heap.size + 2) 3 1 v2 ([h.n].length + (k + 1)) ((app [h.n] h.r (k + 1)).map (Value.int .i64))) := by rw [app_succ _ _ _ hlt]; exact hown2
      clear hown hown2 hg2 hb hB hC
      go_wp2_with (at_builtin; refine wpList_append_run rfl (.tmp 16) (.tmp 19) 22 rfl _ (.slice (some ⟨wr.heap.size, 0, none⟩) 1 1) rfl rfl v2 w2 (by exact hrun) ?_)
      clear hrun
      go_wp2_with fail
      go_roundw
      case rel => exact ⟨k + 1, by omega, by go_num, HO.out, hB2, hC2, hb2⟩
      case measure => simp [RowKit.intOf]; omega
    · obtain rfl : k = 4 := by omega
      generalize hl1 : app [h.n] h.r 4 = L1 at *
      have hlen1 : L1.length = 5 := by rw [← hl1, app_len _ _ _ (by omega)]; rfl
      have f1 : wr.cell? ⟨w.heap.size, 1, none⟩ = some (.int .i64 h.c) := hB.cell 1
      have g0 : wr.cell? ⟨w.heap.size, 6, none⟩ = some (.int .u32 h.l.1) := hB.cell 6
      have hz0 := hB.lt
      obtain ⟨v2, w2, hrun, hown2, hg2⟩ := appInt (x := h.c) (g := wr.heap.size) (hown.alloc (.cells #[.int .i64 h.c] 3)) (by rw [hlen1]; rfl) (by simp) (by omega) (by simp; omega)
      have hb2 : Below w.heap.size w w2 := Below.grown (Mw.bl_alloc hb _) hg2 (by have := hb.size; simp; omega) (fun q hq => by have := (hown.lt q hq).1; omega)
      have hB2 : Bk w2 w.heap.size 39 (hcl h) := Mw.Bk.grown (hB.alloc _) hg2 (fun e => by have := (hown.lt _ e.symm).1; omega)
      have hC2 : Bk w2 (w.heap.size + 1) 35 #[.int .u32 0, .int .u32 0, .int .u32 0, .int .u32 0] := Mw.Bk.grown (hC.alloc _) hg2 (fun e => by have := (hown.lt _ e.symm).1; omega)
      have d0 : w2.cell? ⟨w.heap.size, 6, none⟩ = some (.int .u32 h.l.1) := hB2.cell 6
      have d1 : w2.cell? ⟨w.heap.size, 7, none⟩ = some (.int .u32 h.l.2.1) := hB2.cell 7
      have d2 : w2.cell? ⟨w.heap.size, 8, none⟩ = some (.int .u32 h.l.2.2.1) := hB2.cell 8
      have d3 : w2.cell? ⟨w.heap.size, 9, none⟩ = some (.int .u32 h.l.2.2.2) := hB2.cell 9
      have hz2 := hB2.lt
      have hll : [h.n].length + 4 + 1 = 6 := rfl
      rw [hll] at hown2
      have HO0 : Hid (w2.ownsRow (w.heap.size + 2) 3 1 v2 (6 + 0) ((L1 ++ [h.c]).map (Value.int .i64))) := hown2
      have HB0 := Lib.hid hB2
      have HC0 := Lib.hid hC2
      have hbl0 := hb2
      have Hl1 := Lib.hid hl1
      clear hl1 hown hown2 hg2 hb hB hC hB2 hC2 hb2 g0
      go_wp2_with (at_builtin; refine wpList_append_run rfl (.tmp 22) (.tmp 25) 22 rfl _ (.slice (some ⟨wr.heap.size, 0, none⟩) 1 1) rfl rfl v2 w2 (by exact hrun) ?_)
      clear hrun
      go_wp2_with fail
      clear d0 d1 d2 d3 hz2 f1 hz0
      generalize hL2 : L1 ++ [h.c] = L2 at *
      have hlen2 : L2.length = 6 := by rw [← hL2]; simp [hlen1]
      have HL2 := Lib.hid hL2
      have HO0 : Hid (w2.ownsRow (w.heap.size + 2) 3 1 v2 (L2.length + 0) (L2.map (Value.int .i64))) := by rw [hlen2]; exact HO0.out
      clear hL2 hz
      go_loopw [3, 29] (fun v j wr => ∃ k : Nat, k ≤ 4 ∧ j = .int .i64 k ∧ wr.ownsRow (w.heap.size + 2) 3 1 v (L2.length + k) ((app L2 h.l k).map (Value.int .i64)) ∧ Bk wr w.heap.size 39 (hcl h) ∧ Bk wr (w.heap.size + 1) 35 #[.int .u32 0, .int .u32 0, .int .u32 0, .int .u32 0] ∧ Below w.heap.size w wr) (fun _ j _ => 4 - (RowKit.intOf j).toNat)
      case atStart => exact ⟨0, by omega, rfl, by rw [app_zero]; exact HO0.out, HB0.out, HC0.out, hbl0⟩
      case round =>
        clear HO0 HB0 HC0 hbl0
        obtain ⟨k, hk, rfl, hown, hB, hC, hb⟩ := hrel
        have hz := hC.lt
        by_cases hlt : k < 4
        · have hix := index4 h.l k hlt
          have hbk : decide ((k : Int) < 4) = true := decide_eq_true (by omega)
          obtain ⟨e0, e1⟩ := (Sg.Wd.at Hl.out k)
          obtain ⟨v2, w2, hrun, hown2, hg2⟩ := appInt (x := wrd h.l k) (g := wr.heap.size) (hown.alloc (.cells #[.int .i64 (wrd h.l k)] 3)) (by rw [app_len _ _ _ hk]) (by simp) (by rw [app_len _ _ _ hk, hlen2]; omega) (by simp; omega)
          have hb2 : Below w.heap.size w w2 := Below.grown (Mw.bl_alloc hb _) hg2 (by have := hb.size; simp; omega) (fun q hq => by have := (hown.lt q hq).1; omega)
          have hB2 : Bk w2 w.heap.size 39 (hcl h) := Mw.Bk.grown (hB.alloc _) hg2 (fun e => by have := (hown.lt _ e.symm).1; omega)
          have hC2 : Bk w2 (w.heap.size + 1) 35 _ := Mw.Bk.grown (hC.alloc _) hg2 (fun e => by have := (hown.lt _ e.symm).1; omega)
          have HO : Hid (w2.ownsRow (w.heap.size + 2) 3 1 v2 (L2.length + (k + 1)) ((app L2 h.l (k + 1)).map (Value.int .i64))) := by rw [app_succ _ _ _ hlt]; exact hown2
          clear hown hown2 hg2 hb hB hC
          go_wp2_with (at_builtin; refine wpList_append_run rfl (.tmp 32) (.tmp 35) 22 rfl _ (.slice (some ⟨wr.heap.size, 0, none⟩) 1 1) rfl rfl v2 w2 (by exact hrun) ?_)
          clear hrun
          go_wp2_with fail
          go_roundw
          case rel => exact ⟨k + 1, by omega, by go_num, HO.out, hB2, hC2, hb2⟩
          case measure => simp [RowKit.intOf]; omega
        · obtain rfl : k = 4 := by omega
          have hz0 := hB.lt
          obtain ⟨A, c, he, hrd, _⟩ := own_ints (l := app L2 h.l 4) (by rw [hlen2] at hown; exact hown)
          subst he
          have hl10 : (app L2 h.l 4).length = 10 := by rw [app_len _ _ _ (by omega), hlen2]
          have hnm : nmH h = app L2 h.l 4 := by unfold nmH; rw [Hl1.out, HL2.out]
          have HD : Hid (dgH h = words 7 (nw (app L2 h.l 4) (app L2 h.l 4).length)) := by unfold Hid dgH; rw [hnm]
          have hrd' : Rd wr wr.heap.size .i64 A (app L2 h.l 4) := hrd
          have HN := Lib.hid (numbers_any 7 A c (app L2 h.l 4) wr (by omega) hrd')
          have HC := Lib.hid hC
          clear hown hrd hrd' hnm hl10
          go_wp2_with fail
          refine HN.out.mono ?_
          rintro e w3 ⟨rfl, hb3⟩
          have hC3 := HC.out.old hb3
          have hbz := bl_trans hb hb3
          have hz3 := hC3.lt
          have zf := fun o => hC3.frozen o
          have s0 := hC3.cell 0
          have s1 := hC3.cell 1
          have s2 := hC3.cell 2
          have s3 := hC3.cell 3
          clear hC hB HN hb hb3
          rw [← HD.out]
          go_wp2_with fail
          have hB4 := Mw.Bk.set4 (b0 := .int .u32 (dgH h).1) (b1 := .int .u32 (dgH h).2.1) (b2 := .int .u32 (dgH h).2.2.1) (b3 := .int .u32 (dgH h).2.2.2) hC3
          have hbw : Below w.heap.size w ((((w3.setCell ⟨w.heap.size + 1, 0, none⟩ (.int .u32 (dgH h).1)).setCell ⟨w.heap.size + 1, 1, none⟩ (.int .u32 (dgH h).2.1)).setCell ⟨w.heap.size + 1, 2, none⟩ (.int .u32 (dgH h).2.2.1)).setCell ⟨w.heap.size + 1, 3, none⟩ (.int .u32 (dgH h).2.2.2)) := by (repeat (first | with_reducible exact Below.refl _ _ | with_reducible refine bl_drewN ?_ _ | with_reducible refine Below.drew ?_ | with_reducible refine bl_alloc ?_ _ | with_reducible refine Below.alloc ?_ (by first | omega | (simp; done) | (simp; omega)) _ | with_reducible refine Below.setCell ?_ (by first | omega | (simp; done) | (simp; omega)) _ | with_reducible assumption))
          generalize ((((w3.setCell ⟨w.heap.size + 1, 0, none⟩ (.int .u32 (dgH h).1)).setCell ⟨w.heap.size + 1, 1, none⟩ (.int .u32 (dgH h).2.1)).setCell ⟨w.heap.size + 1, 2, none⟩ (.int .u32 (dgH h).2.2.1)).setCell ⟨w.heap.size + 1, 3, none⟩ (.int .u32 (dgH h).2.2.2)) = wz at hB4 hbw ⊢
          clear s0 s1 s2 s3
          have k0 := hB4.cell 0
          have k1 := hB4.cell 1
          have k2 := hB4.cell 2
          have k3 := hB4.cell 3
          refine bodyPost_ret (v := dv (dgH h)) (by simp [results, Tryz.results53, go_sem, k0, k1, k2, k3]) rfl ⟨rfl, hbw⟩
/-- The entry issues the certificate with a number. -/
def is1 (e : Le) (id : Int) : Bool := decide (e.k = 0 ∧ e.f.i = id)
theorem pred1_any (e : Le) (id : Int) (b : Nat) (w : World) (hb : w.cell? ⟨b, 0, none⟩ = some (.int .i64 id)) (hlt : b < w.heap.size) : Calls Tryz.prog 55 #[lev e, .pointer (some ⟨b, 0, none⟩)] w fun x w' => x = .returned (.bool (is1 e id)) ∧ Below w.heap.size w w' := by
  by_cases hk : e.k = 0
  · have k0 : (e.k == 0) = true := by rw [hk]; rfl
    by_cases hi : e.f.i = id
    · have i0 : (e.f.i == id) = true := beq_iff_eq.2 hi
      have H : Hid (is1 e id = true) := decide_eq_true ⟨hk, hi⟩
      rw [H.out]
      clear hk hi
      go_enter Tryz.func55, Tryz.ntmps55
      go_wp2_with fail
      go_ret
      exact ⟨rfl, by (repeat (first | with_reducible exact Below.refl _ _ | with_reducible refine bl_drewN ?_ _ | with_reducible refine Below.drew ?_ | with_reducible refine bl_alloc ?_ _ | with_reducible refine Below.alloc ?_ (by first | omega | (simp; done) | (simp; omega)) _ | with_reducible refine Below.setCell ?_ (by first | omega | (simp; done) | (simp; omega)) _ | with_reducible assumption))⟩
    · have i0 : (e.f.i == id) = false := beq_eq_false_iff_ne.2 hi
      have H : Hid (is1 e id = false) := decide_eq_false fun h => hi h.2
      rw [H.out]
      clear hk hi
      go_enter Tryz.func55, Tryz.ntmps55
      go_wp2_with fail
      go_ret
      exact ⟨rfl, by (repeat (first | with_reducible exact Below.refl _ _ | with_reducible refine bl_drewN ?_ _ | with_reducible refine Below.drew ?_ | with_reducible refine bl_alloc ?_ _ | with_reducible refine Below.alloc ?_ (by first | omega | (simp; done) | (simp; omega)) _ | with_reducible refine Below.setCell ?_ (by first | omega | (simp; done) | (simp; omega)) _ | with_reducible assumption))⟩
  · have k0 : (e.k == 0) = false := beq_eq_false_iff_ne.2 hk
    have H : Hid (is1 e id = false) := decide_eq_false fun h => hk h.1
    rw [H.out]
    clear hk
    go_enter Tryz.func55, Tryz.ntmps55
    go_wp2_with fail
    go_ret
    exact ⟨rfl, by (repeat (first | with_reducible exact Below.refl _ _ | with_reducible refine bl_drewN ?_ _ | with_reducible refine Below.drew ?_ | with_reducible refine bl_alloc ?_ _ | with_reducible refine Below.alloc ?_ (by first | omega | (simp; done) | (simp; omega)) _ | with_reducible refine Below.setCell ?_ (by first | omega | (simp; done) | (simp; omega)) _ | with_reducible assumption))⟩
theorem pred2_any (c : Cf) (id : Int) (b : Nat) (w : World) (hb : w.cell? ⟨b, 0, none⟩ = some (.int .i64 id)) (hlt : b < w.heap.size) : Calls Tryz.prog 57 #[cfv c, .pointer (some ⟨b, 0, none⟩)] w fun x w' => x = .returned (.bool (decide (c.i = id))) ∧ Below w.heap.size w w' := by
  by_cases hi : c.i = id
  · have i0 : (c.i == id) = true := beq_iff_eq.2 hi
    rw [decide_eq_true hi]
    clear hi
    go_enter Tryz.func57, Tryz.ntmps57
    go_wp2_with fail
    go_ret
    exact ⟨rfl, by (repeat (first | with_reducible exact Below.refl _ _ | with_reducible refine bl_drewN ?_ _ | with_reducible refine Below.drew ?_ | with_reducible refine bl_alloc ?_ _ | with_reducible refine Below.alloc ?_ (by first | omega | (simp; done) | (simp; omega)) _ | with_reducible refine Below.setCell ?_ (by first | omega | (simp; done) | (simp; omega)) _ | with_reducible assumption))⟩
  · have i0 : (c.i == id) = false := beq_eq_false_iff_ne.2 hi
    rw [decide_eq_false hi]
    clear hi
    go_enter Tryz.func57, Tryz.ntmps57
    go_wp2_with fail
    go_ret
    exact ⟨rfl, by (repeat (first | with_reducible exact Below.refl _ _ | with_reducible refine bl_drewN ?_ _ | with_reducible refine Below.drew ?_ | with_reducible refine bl_alloc ?_ _ | with_reducible refine Below.alloc ?_ (by first | omega | (simp; done) | (simp; omega)) _ | with_reducible refine Below.setCell ?_ (by first | omega | (simp; done) | (simp; omega)) _ | with_reducible assumption))⟩
/-- The first place at which p holds, from n; none: -1. -/
def fix {α : Type} (p : α → Bool) : List α → Nat → Int
  | [], _ => -1
  | x :: l, n => if p x then n else fix p l (n + 1)
theorem fix_drop {α : Type} [Inhabited α] (p : α → Bool) (l : List α) (k : Nat) (h : k < l.length) : fix p (l.drop k) k = if p (ge l k) then (k : Int) else fix p (l.drop (k + 1)) (k + 1) := by
  have e : l.drop k = ge l k :: l.drop (k + 1) := by
    rw [List.drop_eq_getElem_cons h]
    congr 1
    have := Mw.ge_lt l k h
    rw [List.getElem?_eq_getElem h] at this
    injection this
  rw [e]; rfl
set_option maxHeartbeats 1000000 in
theorem indexL_any (l : List Le) (A : Option Addr) (c : Nat) (id : Int) (b : Nat) (w : World) (hr : RdL w A l) (hb : w.cell? ⟨b, 0, none⟩ = some (.int .i64 id)) (hlb : b < w.heap.size) (hl : l.length ≤ 1000) : Calls Tryz.prog 54 #[.slice A l.length c, .func (.func 55) #[] #[.pointer (some ⟨b, 0, none⟩)]] w fun e w' => e = .returned (.int .i64 (fix (fun x => is1 x id) l 0)) ∧ Below w.heap.size w w' := by
  have HR := Lib.hid hr
  have HB := Lib.hid hb
  clear hr hb
  go_enter Tryz.func54, Tryz.ntmps54
  go_wp2_with fail
  go_loopw [8] (fun i wr => ∃ k : Nat, k ≤ l.length ∧ i = .int .i64 k ∧ fix (fun x => is1 x id) l 0 = fix (fun x => is1 x id) (l.drop k) k ∧ Below w.heap.size w wr) (fun i _ => l.length - (RowKit.intOf i).toNat)
  case atStart => exact ⟨0, by omega, rfl, rfl, Below.refl _ _⟩
  case round =>
    obtain ⟨k, hk, rfl, hf, hbl⟩ := hrel
    by_cases hlt : k < l.length
    · obtain ⟨b', off, rfl, hbl', c0, c1, c2, c3, c4, c5⟩ := le_at (HR.out.old hbl) k hlt
      have hd := fix_drop (fun x => is1 x id) l k hlt
      have hbr : wr.cell? ⟨b, 0, none⟩ = some (.int .i64 id) := (hbl.cell (p := ⟨b, 0, none⟩) hlb).trans HB.out
      have HP := Lib.hid (pred1_any (ge l k) id b wr hbr (Nat.lt_of_lt_of_le hlb hbl.size))
      rw [hd] at hf
      have HF := Lib.hid hf
      have hlt' : (k : Int) < l.length := by omega
      clear hf hd hbr
      go_wp2_with fail
      refine HP.out.mono ?_
      rintro e w2 ⟨rfl, hb2⟩
      have hb3 := bl_trans hbl hb2
      clear HP hb2 hbl c0 c1 c2 c3 c4 c5 hbl'
      cases hz : is1 (ge l k) id
      · have HF2 : Hid (fix (fun x => is1 x id) l 0 = fix (fun x => is1 x id) (l.drop (k + 1)) (k + 1)) := by have := HF.out; simp only [hz] at this; exact this
        clear HF
        go_wp2_with fail
        go_roundw
        case rel => exact ⟨k + 1, by omega, by go_num, HF2.out, hb3⟩
        case measure => simp [RowKit.intOf]; omega
      · have HF2 : Hid (fix (fun x => is1 x id) l 0 = (k : Int)) := by have := HF.out; simp only [hz] at this; exact this
        clear HF
        go_wp2_with fail
        go_ret
        exact ⟨by rw [HF2.out] <;> rfl, hb3⟩
    · have hkl : k = l.length := by omega
      have HF : Hid (fix (fun x => is1 x id) l 0 = -1) := by unfold Hid; rw [hf, hkl, List.drop_length]; rfl
      clear hkl hf
      go_wp2_with fail
      go_ret
      exact ⟨by rw [HF.out] <;> rfl, hbl⟩
set_option maxHeartbeats 1000000 in
theorem indexC_any (l : List Cf) (A : Option Addr) (c : Nat) (id : Int) (b : Nat) (w : World) (hr : RdC w A l) (hb : w.cell? ⟨b, 0, none⟩ = some (.int .i64 id)) (hlb : b < w.heap.size) (hl : l.length ≤ 1000) : Calls Tryz.prog 56 #[.slice A l.length c, .func (.func 57) #[] #[.pointer (some ⟨b, 0, none⟩)]] w fun e w' => e = .returned (.int .i64 (fix (fun x => decide (x.i = id)) l 0)) ∧ Below w.heap.size w w' := by
  have HR := Lib.hid hr
  have HB := Lib.hid hb
  clear hr hb
  go_enter Tryz.func56, Tryz.ntmps56
  go_wp2_with fail
  go_loopw [8] (fun i wr => ∃ k : Nat, k ≤ l.length ∧ i = .int .i64 k ∧ fix (fun x => decide (x.i = id)) l 0 = fix (fun x => decide (x.i = id)) (l.drop k) k ∧ Below w.heap.size w wr) (fun i _ => l.length - (RowKit.intOf i).toNat)
  case atStart => exact ⟨0, by omega, rfl, rfl, Below.refl _ _⟩
  case round =>
    obtain ⟨k, hk, rfl, hf, hbl⟩ := hrel
    by_cases hlt : k < l.length
    · obtain ⟨b', off, rfl, hbl', c0, c1, c2, c3, c4⟩ := cf_at (HR.out.old hbl) k hlt
      have hd := fix_drop (fun x => decide (x.i = id)) l k hlt
      have hbr : wr.cell? ⟨b, 0, none⟩ = some (.int .i64 id) := (hbl.cell (p := ⟨b, 0, none⟩) hlb).trans HB.out
      have HP := Lib.hid (pred2_any (ge l k) id b wr hbr (Nat.lt_of_lt_of_le hlb hbl.size))
      rw [hd] at hf
      have HF := Lib.hid hf
      have hlt' : (k : Int) < l.length := by omega
      clear hf hd hbr
      go_wp2_with fail
      refine HP.out.mono ?_
      rintro e w2 ⟨rfl, hb2⟩
      have hb3 := bl_trans hbl hb2
      clear HP hb2 hbl c0 c1 c2 c3 c4 hbl'
      cases hz : decide ((ge l k).i = id)
      · have HF2 : Hid (fix (fun x => decide (x.i = id)) l 0 = fix (fun x => decide (x.i = id)) (l.drop (k + 1)) (k + 1)) := by have := HF.out; simp only [hz] at this; exact this
        clear HF
        go_wp2_with fail
        go_roundw
        case rel => exact ⟨k + 1, by omega, by go_num, HF2.out, hb3⟩
        case measure => simp [RowKit.intOf]; omega
      · have HF2 : Hid (fix (fun x => decide (x.i = id)) l 0 = (k : Int)) := by have := HF.out; simp only [hz] at this; exact this
        clear HF
        go_wp2_with fail
        go_ret
        exact ⟨by rw [HF2.out] <;> rfl, hb3⟩
    · have hkl : k = l.length := by omega
      have HF : Hid (fix (fun x => decide (x.i = id)) l 0 = -1) := by unfold Hid; rw [hf, hkl, List.drop_length]; rfl
      clear hkl hf
      go_wp2_with fail
      go_ret
      exact ⟨by rw [HF.out] <;> rfl, hbl⟩
/-- A digest of a list and a path lead to a root. -/
noncomputable def ldE (d : St) (i n : Int) (p : List St) (r : St) : Bool := decide ((leadE (leaf d) i n p).2 = 0) && eqb (leadE (leaf d) i n p).1 r
end Go.Proofs.YtdikoffppjoomaaGreat.Ct
