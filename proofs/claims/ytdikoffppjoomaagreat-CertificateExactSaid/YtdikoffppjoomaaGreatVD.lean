/- Walks: the reference's entries, live, Extension, Extends; comparisons of equal lists. -/
import Derived.Test.YtdikoffppjoomaaGreatVB
import Derived.Test.YtdikoffppjoomaaGreatCS
import Derived.Test.YtdikoffppjoomaaGreatCW
import Derived.WalkKit
import Derived.WalkSpells
import Derived.WalkLawsBesides
import Derived.Deep.QuietTactic
import Derived.BigQuiet
import Derived.Deep.Draws
import Derived.Deep.AppendLies
import Derived.Laws.OwnMore
import Derived.Laws.BytesArg
import Derived.Lib.Hide
import Derived.Deep.LoopGhost
import Derived.OwnWalk
import Derived.Maps.AppendAt
import Derived.RegionTactic
namespace Go.Proofs.YtdikoffppjoomaaGreat.Ct
open Go.RowKit Go.Proofs.YtdikoffppjoomaaGreat.Dg
open Go.Proofs.YtdikoffppjoomaaGreat.Mw (I64 ret_int ret_bool Bk bl_trans own_ints RdI RdR ge ge_lt gi ge_mem own_rows wpList_append_run)
open Go.Proofs.YtdikoffppjoomaaGreat.Tr (RdD gd dl own_digs own_snoc infoDig news_dig one_dig consE consB rcons_any rconsist_any)
open Go.Proofs.YtdikoffppjoomaaGreat.Sg (Wd sgv ver chal)
set_option linter.unusedVariables false
set_option linter.unusedSimpArgs false
set_option maxRecDepth 100000
attribute [local go_sem] eq_dig

theorem crr_len (l : List Le) : (crr l).length ≤ 1000 := by
  unfold crr
  split
  · rename_i h
    have h1 := (inv_of (V_chk h)).len
    have h2 := len_curN l l.length
    unfold cur
    omega
  · simp
set_option maxHeartbeats 1000000 in
theorem rentries_any (l : List Le) (A : Option Addr) (c : Nat) (w : World) (hl : l.length ≤ 1000) (hr : RdL w A l) : Calls Tryz.prog 75 #[.slice A l.length c] w (DE (l.map dgE) w) := by
  obtain ⟨i0, hi0, hz0, hz1, hz2⟩ := info_parts infoDig
  have HR := Lib.hid hr
  clear hr
  go_enter Tryz.func75, Tryz.ntmps75
  go_wp2_with fail
  go_loopw [3, 4] (fun v i wr => ∃ k : Nat, k ≤ l.length ∧ i = .int .i64 k ∧ wr.ownsRow w.heap.size 35 4 v ((l.take k).map dgE).length (((l.take k).map dgE).flatMap dl) ∧ Below w.heap.size w wr) (fun _ i _ => l.length - (RowKit.intOf i).toNat)
  case atStart => exact ⟨0, by omega, rfl, by simpa using World.ownsRow_nil _ _ _ _, by (repeat (first | with_reducible exact Below.refl _ _ | with_reducible refine bl_drewN ?_ _ | with_reducible refine Below.drew ?_ | with_reducible refine bl_alloc ?_ _ | with_reducible refine Below.alloc ?_ (by first | omega | (simp; done) | (simp; omega)) _ | with_reducible refine Below.setCell ?_ (by first | omega | (simp; done) | (simp; omega)) _ | with_reducible assumption))⟩
  case round =>
    obtain ⟨k, hk, rfl, hown, hb⟩ := hrel
    by_cases hlt : k < l.length
    · obtain ⟨b, off, rfl, hbl, c0, c1, c2, c3, c4, c5⟩ := le_at (HR.out.old hb) k hlt
      have HE := Lib.hid (rentry_any (ge l k))
      have HT := Lib.hid (take_map_succ dgE l k hlt)
      have q1 : (0 : Int) ≤ (k : Int) := by omega
      have hlt' : (k : Int) < l.length := by omega
      have hsz := hb.size
      generalize hL : (l.take k).map dgE = L at hown HT
      have hLl : L.length ≤ 1000 := by rw [← hL]; simp; omega
      clear hL
      go_wp2_with fail
      refine (HE.out _).mono ?_
      rintro e w3 ⟨rfl, hb3⟩
      have hown3 := own_olB hown hb3
      have hb4 := bl_trans hb hb3
      clear c0 c1 c2 c3 c4 c5 hbl hown hb
      go_wp2_with (at_builtin; refine wpList_append_own _ rfl _ _ 47 rfl w.heap.size 35 i0 (dv (0, 0, 0, 0)) 4 16 Tryz.underlying47 hi0 hz0 hz1 hz2 rfl (by decide) _ _ _ rfl (hown3.alloc _) ⟨w3.heap.size, 0, none⟩ 1 1 (dl (dgE (ge l k))) rfl rfl ?c1 ?c2 ?c3 ?c4 ?c5 ?_)
      case c1 => exact news_dig (T := 35) (dgE (ge l k)) (Mw.Bk.new _ _ _)
      case c2 => exact one_dig _
      case c3 => simp only [maxLen]; omega
      case c4 => omega
      case c5 => have := hb4.size; simp; omega
      intro v' w5 hown5 hgrow _
      have hro : ∀ j, Value.ownBlock _ = some j → w.heap.size ≤ j := fun j hj => (hown3.lt j hj).1
      have hb5 : Below w.heap.size w w5 := Below.grown (Mw.bl_alloc hb4 _) hgrow (by have := hb4.size; simp; omega) hro
      have hown6 := own_snoc hown5
      clear hown5 hgrow hro hown3 hb4 hb3
      go_wp2_with fail
      go_roundw
      case rel => exact ⟨k + 1, by omega, by go_num, by rw [HT.out]; exact hown6, hb5⟩
      case measure => simp [RowKit.intOf]; omega
    · have hkl : k = l.length := by omega
      have Hown : Hid (wr.ownsRow w.heap.size 35 4 u3 (l.map dgE).length ((l.map dgE).flatMap dl)) := by unfold Hid; rw [hkl, List.take_length] at hown; exact hown
      obtain ⟨A1, c1, rfl, p1, p2, p3, -⟩ := own_digs Hown.out
      clear hkl hown Hown
      go_wp2_with fail
      go_ret
      exact ⟨A1, c1, rfl, p1, p2, p3, hb⟩
set_option maxHeartbeats 1000000 in
theorem rlive_any (l : List Le) (A : Option Addr) (c : Nat) (w : World) (hr : RdL w A l) (hlc : l.length ≤ c) : Calls Tryz.prog 76 #[.slice A l.length c] w (DE ((crr l).map dgC) w) := by
  obtain ⟨i0, hi0, hz0, hz1, hz2⟩ := info_parts infoDig
  have HCu := Lib.hid (rcurrent_any l A c w hr hlc)
  have hm : (crr l).length ≤ 1000 := crr_len l
  generalize crr l = m at HCu hm
  clear hr
  go_enter Tryz.func76, Tryz.ntmps76
  go_wp2_with fail
  refine HCu.out.mono ?_
  rintro e w1 ⟨v1, rfl, hown1, hb1⟩
  obtain ⟨C1, cC1, rfl, hcC, hrC, -⟩ := own_rows cfl_len (by omega) hown1
  have HR := Lib.hid hrC
  clear hown1 hrC HCu hcC
  go_wp2_with fail
  go_loopw [3, 5] (fun v i wr => ∃ k : Nat, k ≤ m.length ∧ i = .int .i64 k ∧ wr.ownsRow w1.heap.size 35 4 v ((m.take k).map dgC).length (((m.take k).map dgC).flatMap dl) ∧ Below w1.heap.size w1 wr) (fun _ i _ => m.length - (RowKit.intOf i).toNat)
  case atStart => exact ⟨0, by omega, rfl, by simpa using World.ownsRow_nil _ _ _ _, by (repeat (first | with_reducible exact Below.refl _ _ | with_reducible refine bl_drewN ?_ _ | with_reducible refine Below.drew ?_ | with_reducible refine bl_alloc ?_ _ | with_reducible refine Below.alloc ?_ (by first | omega | (simp; done) | (simp; omega)) _ | with_reducible refine Below.setCell ?_ (by first | omega | (simp; done) | (simp; omega)) _ | with_reducible assumption))⟩
  case round =>
    obtain ⟨k, hk, rfl, hown, hb⟩ := hrel
    by_cases hlt : k < m.length
    · obtain ⟨b, off, rfl, hbl, c0, c1, c2, c3, c4⟩ := cf_at (HR.out.old hb) k hlt
      have HE := Lib.hid (rdigest_any (ge m k))
      have HT := Lib.hid (take_map_succ dgC m k hlt)
      have q1 : (0 : Int) ≤ (k : Int) := by omega
      have hlt' : (k : Int) < m.length := by omega
      have hsz := hb.size
      generalize hL : (m.take k).map dgC = L at hown HT
      have hLl : L.length ≤ 1000 := by rw [← hL]; simp; omega
      clear hL
      go_wp2_with fail
      refine (HE.out _).mono ?_
      rintro e w3 ⟨rfl, hb3⟩
      have hown3 := own_olB hown hb3
      have hb4 := bl_trans hb hb3
      clear c0 c1 c2 c3 c4 hbl hown hb
      go_wp2_with (at_builtin; refine wpList_append_own _ rfl _ _ 47 rfl w1.heap.size 35 i0 (dv (0, 0, 0, 0)) 4 16 Tryz.underlying47 hi0 hz0 hz1 hz2 rfl (by decide) _ _ _ rfl (hown3.alloc _) ⟨w3.heap.size, 0, none⟩ 1 1 (dl (dgC (ge m k))) rfl rfl ?c1 ?c2 ?c3 ?c4 ?c5 ?_)
      case c1 => exact news_dig (T := 35) (dgC (ge m k)) (Mw.Bk.new _ _ _)
      case c2 => exact one_dig _
      case c3 => simp only [maxLen]; omega
      case c4 => omega
      case c5 => have := hb4.size; simp; omega
      intro v' w5 hown5 hgrow _
      have hro : ∀ j, Value.ownBlock _ = some j → w1.heap.size ≤ j := fun j hj => (hown3.lt j hj).1
      have hb5 : Below w1.heap.size w1 w5 := Below.grown (Mw.bl_alloc hb4 _) hgrow (by have := hb4.size; simp; omega) hro
      have hown6 := own_snoc hown5
      clear hown5 hgrow hro hown3 hb4 hb3
      go_wp2_with fail
      go_roundw
      case rel => exact ⟨k + 1, by omega, by go_num, by rw [HT.out]; exact hown6, hb5⟩
      case measure => simp [RowKit.intOf]; omega
    · have hkl : k = m.length := by omega
      have Hown : Hid (wr.ownsRow w1.heap.size 35 4 u3 (m.map dgC).length ((m.map dgC).flatMap dl)) := by unfold Hid; rw [hkl, List.take_length] at hown; exact hown
      obtain ⟨A1, c1, rfl, p1, p2, p3, -⟩ := own_digs Hown.out
      clear hkl hown Hown
      go_wp2_with fail
      go_ret
      exact ⟨A1, c1, rfl, p1, p2, p3, bl_trans hb1 hb⟩
theorem rextension_any (l : List Le) (A : Option Addr) (c : Nat) (k : Int) (w : World) (hr : RdL w A l) (hlc : l.length ≤ c) : Calls Tryz.prog 37 #[.slice A l.length c, .int .i64 k] w (Tr.PE (ext l k) w) := by
  have HR := Lib.hid (rcheck_any l A c w hr hlc)
  have HR1 := Lib.hid hr
  clear hr
  by_cases hz : chk l = 0
  · have z0 : (chk l != 0) = false := by rw [hz]; rfl
    have hle := (inv_of (V_chk hz)).len
    have HS : Hid (ext l k = consE (l.map dgE) k) := if_pos hz
    have HD : Hid (∀ W : World, Below w.heap.size w W → Calls Tryz.prog 75 #[.slice A l.length c] W (DE (l.map dgE) W)) := fun W hb => rentries_any l A c W (by omega) (HR1.out.old hb)
    have hdl : (l.map dgE).length = l.length := List.length_map ..
    generalize l.map dgE = ds at hdl HS HD
    have hd2 : ds.length ≤ 1000000 := by omega
    clear hz hdl
    go_enter Tryz.func37, Tryz.ntmps37
    go_wp2_with fail
    refine HR.out.mono ?_
    rintro e w1 ⟨rfl, hb1⟩
    go_wp2_with fail
    refine (HD.out _ hb1).mono ?_
    rintro e w2 ⟨D, cD, rfl, hcD, hmD, hrD, hb2⟩
    have hb3 := bl_trans hb1 hb2
    clear hb1 hb2
    have HP := Lib.hid (rcons_any ds D cD k w2 hd2 hcD hmD hrD)
    generalize consE ds k = X at HP HS
    obtain ⟨x, y⟩ := X
    go_wp2_with fail
    refine HP.out.mono ?_
    rintro e w3 ⟨E, cE, rfl, hcE, hmE, hrE, hb4⟩
    go_wp2_with fail
    go_ret2
    rw [HS.out]
    exact ⟨E, cE, rfl, hcE, hmE, hrE, bl_trans hb3 hb4⟩
  · have z0 : (chk l != 0) = true := bne_iff_ne.2 hz
    have HS : Hid (ext l k = ([], chk l)) := if_neg hz
    clear hz
    go_enter Tryz.func37, Tryz.ntmps37
    go_wp2_with fail
    refine HR.out.mono ?_
    rintro e w1 ⟨rfl, hb1⟩
    go_wp2_with fail
    go_ret2
    rw [HS.out]
    exact ⟨none, 0, rfl, Nat.le_refl _, by simp [maxLen], RdD.nil _ _, hb1⟩
set_option maxHeartbeats 1000000 in
theorem samedigs_any (l : List St) (A B : Option Addr) (c d : Nat) (w : World) (hl : l.length ≤ 1000000) (hA : RdD w A l) (hB : RdD w B l) :
    Calls Tryz.prog 39 #[.slice A l.length c, .slice B l.length d] w fun e w' => e = .returned (.bool true) ∧ Below w.heap.size w w' := by
  have n0 : ((l.length : Int) != (l.length : Int)) = false := by simp
  have HA := Lib.hid hA
  have HB := Lib.hid hB
  clear hA hB
  go_enter Tryz.func39, Tryz.ntmps39
  go_wp2_with fail
  go_loopw [5] (fun i wr => ∃ k : Nat, k ≤ l.length ∧ i = .int .i64 k ∧ Below w.heap.size w wr) (fun i _ => l.length - (RowKit.intOf i).toNat)
  case atStart => exact ⟨0, by omega, rfl, Below.refl _ _⟩
  case round =>
    obtain ⟨k, hk, rfl, hb⟩ := hrel
    by_cases hlt : k < l.length
    · obtain ⟨b, off, rfl, hbl, c0, c1, c2, c3⟩ := (HA.out.old hb).at k hlt
      obtain ⟨b', off', rfl, hbl', d0, d1, d2, d3⟩ := (HB.out.old hb).at k hlt
      have q1 : (0 : Int) ≤ (k : Int) := by omega
      have q2 : (k : Int) < (l.length : Int) := by omega
      have he := eqb_self ((gd l k).1, (gd l k).2.1, (gd l k).2.2.1, (gd l k).2.2.2)
      go_wp2_with fail
      refine Mm.region_ext (by kernel_rfl) (by kernel_rfl) ?_; (repeat (first | go_big_quiet_step (fail) | quiet_step (fail))); refine wpQuiet_nil ?_
      intro w2 hb2
      have hb3 := bl_trans hb hb2
      go_wp2_with fail
      go_roundw
      case rel => exact ⟨k + 1, by omega, by go_num, hb3⟩
      case measure => simp [RowKit.intOf]; omega
    · go_wp2_with fail
      go_ret
      exact ⟨rfl, hb⟩
set_option maxHeartbeats 1000000 in
theorem samecerts_any (l : List Cf) (A B : Option Addr) (c d : Nat) (w : World) (hl : l.length ≤ maxLen) (hA : RdC w A l) (hB : RdC w B l) : Calls Tryz.prog 26 #[.slice A l.length c, .slice B l.length d] w fun e w' => e = .returned (.bool true) ∧ Below w.heap.size w w' := by
  have n0 : ((l.length : Int) != (l.length : Int)) = false := by simp
  have HA := Lib.hid hA
  have HB := Lib.hid hB
  simp only [maxLen] at hl
  clear hA hB
  go_enter Tryz.func26, Tryz.ntmps26
  go_wp2_with fail
  go_loopw [13] (fun i wr => ∃ k : Nat, k ≤ l.length ∧ i = .int .i64 k ∧ Below w.heap.size w wr) (fun i _ => l.length - (RowKit.intOf i).toNat)
  case atStart => exact ⟨0, by omega, rfl, Below.refl _ _⟩
  case round =>
    obtain ⟨k, hk, rfl, hb⟩ := hrel
    by_cases hlt : k < l.length
    · obtain ⟨b, off, rfl, hbl, c0, c1, c2, c3, c4⟩ := cf_at (HA.out.old hb) k hlt
      obtain ⟨b', off', rfl, hbl', d0, d1, d2, d3, d4⟩ := cf_at (HB.out.old hb) k hlt
      have hlt' : (k : Int) < l.length := by omega
      have q1 : (0 : Int) ≤ (k : Int) := by omega
      go_wp2_with fail
      refine Mm.region_ext (by kernel_rfl) (by kernel_rfl) ?_; (repeat (first | go_big_quiet_step (fail) | quiet_step (fail))); refine wpQuiet_nil ?_
      intro w2 hb2
      have hb3 := bl_trans hb hb2
      go_wp2_with fail
      go_roundw
      case rel => exact ⟨k + 1, by omega, by go_num, hb3⟩
      case measure => simp [RowKit.intOf]; omega
    · go_wp2_with fail
      go_ret
      exact ⟨rfl, hb⟩
set_option maxHeartbeats 1000000 in
theorem sameproof_any (i j : Int) (pa sp : List St) (A B C D : Option Addr) (ca cb cc cd : Nat) (w : World) (h1 : pa.length ≤ 1000000) (h2 : sp.length ≤ 1000000) (hA : RdD w A pa) (hB : RdD w B sp) (hC : RdD w C pa) (hD : RdD w D sp) :
    Calls Tryz.prog 38 #[.agg #[.int .i64 i, .int .i64 j, .slice A pa.length ca, .slice B sp.length cb], .agg #[.int .i64 i, .int .i64 j, .slice C pa.length cc, .slice D sp.length cd]] w fun e w' => e = .returned (.bool true) ∧ Below w.heap.size w w' := by
  have H1 : Hid (∀ W : World, Below w.heap.size w W → Calls Tryz.prog 39 #[.slice A pa.length ca, .slice C pa.length cc] W fun e w' => e = .returned (.bool true) ∧ Below W.heap.size W w') := fun W hb => samedigs_any pa A C ca cc W h1 (hA.old hb) (hC.old hb)
  have H2 : Hid (∀ W : World, Below w.heap.size w W → Calls Tryz.prog 39 #[.slice B sp.length cb, .slice D sp.length cd] W fun e w' => e = .returned (.bool true) ∧ Below W.heap.size W w') := fun W hb => samedigs_any sp B D cb cd W h2 (hB.old hb) (hD.old hb)
  clear hA hB hC hD
  go_enter Tryz.func38, Tryz.ntmps38
  go_wp2_with fail
  refine (H1.out _ (by (repeat (first | with_reducible exact Below.refl _ _ | with_reducible refine bl_drewN ?_ _ | with_reducible refine Below.drew ?_ | with_reducible refine bl_alloc ?_ _ | with_reducible refine Below.alloc ?_ (by first | omega | (simp; done) | (simp; omega)) _ | with_reducible refine Below.setCell ?_ (by first | omega | (simp; done) | (simp; omega)) _ | with_reducible assumption)))).mono ?_
  rintro e w1 ⟨rfl, hb1⟩
  have hP : Bk w1 w.heap.size 49 #[.int .i64 i, .int .i64 j, .slice A pa.length ca, .slice B sp.length cb] := Mw.Bk.old (by (repeat (first | ((with_reducible refine Mw.Bk.new' ?_); (first | rfl | (simp; done) | (simp; omega))) | with_reducible refine Mw.Bk.alloc ?_ _ | with_reducible refine Mw.Bk.drewN ?_ _ | with_reducible refine Mw.Bk.drew ?_ | with_reducible assumption))) hb1
  have hQ : Bk w1 (w.heap.size + 1) 49 #[.int .i64 i, .int .i64 j, .slice C pa.length cc, .slice D sp.length cd] := Mw.Bk.old (Mw.Bk.new' (by simp)) hb1
  have hb2 : Below w.heap.size w w1 := bl_trans (by (repeat (first | with_reducible exact Below.refl _ _ | with_reducible refine bl_drewN ?_ _ | with_reducible refine Below.drew ?_ | with_reducible refine bl_alloc ?_ _ | with_reducible refine Below.alloc ?_ (by first | omega | (simp; done) | (simp; omega)) _ | with_reducible refine Below.setCell ?_ (by first | omega | (simp; done) | (simp; omega)) _ | with_reducible assumption))) hb1
  have p3 := hP.cell 3
  have q3 := hQ.cell 3
  have pl := hP.lt
  have ql := hQ.lt
  clear hb1 hP hQ
  go_wp2_with fail
  refine (H2.out _ hb2).mono ?_
  rintro e w2 ⟨rfl, hb3⟩
  go_wp2_with fail
  go_ret
  exact ⟨rfl, bl_trans hb2 hb3⟩
end Go.Proofs.YtdikoffppjoomaaGreat.Ct
namespace Go.Proofs.YtdikoffppjoomaaGreat.Ct
open Go.RowKit Go.Proofs.YtdikoffppjoomaaGreat.Dg
open Go.Proofs.YtdikoffppjoomaaGreat.Mw (I64 ret_int ret_bool Bk bl_trans own_ints RdI RdR ge ge_lt gi ge_mem own_rows)
open Go.Proofs.YtdikoffppjoomaaGreat.Tr (RdD leaf root consE rcons_any consB rconsist_any)
open Go.Proofs.YtdikoffppjoomaaGreat.Sg (Wd sgv ver chal val sR sS rsign_yes)
set_option linter.unusedVariables false
set_option linter.unusedSimpArgs false
set_option maxRecDepth 100000

theorem rvalid_any' (s : Int) : ∀ w : World, Calls Tryz.prog 45 #[.int .i64 s] w fun e w' => e = .returned (.bool (val s)) ∧ w = w' := fun w => Sg.rvalid_any s w
set_option maxHeartbeats 4000000 in
theorem rextends_any (p : Int) (a b : He) (pa : List St) (A : Option Addr) (ca : Nat) (w : World) (hp : I64 p) (ha1 : I64 a.R) (ha2 : I64 a.S) (ha3 : Wd a.r) (ha4 : Wd a.l) (hb1 : I64 b.R) (hb2 : I64 b.S) (hb3 : Wd b.r) (hb4 : Wd b.l)
    (hl1 : pa.length ≤ 1000000) (hc1 : pa.length ≤ ca) (hm1 : ca ≤ maxLen) (hA : RdD w A pa) :
    Calls Tryz.prog 41 #[.int .i64 p, hev a, hev b, .slice A pa.length ca] w fun e w' => e = .returned (.bool (exs p a b pa)) ∧ Below w.heap.size w w' := by
  have HS1 : Hid (∀ W : World, Calls Tryz.prog 63 #[hev a] W fun e w' => e = .returned (dv (dgH a)) ∧ Below W.heap.size W w') := fun W => rmessage_any a ha3 ha4 W
  have HS2 : Hid (∀ W : World, Calls Tryz.prog 63 #[hev b] W fun e w' => e = .returned (dv (dgH b)) ∧ Below W.heap.size W w') := fun W => rmessage_any b hb3 hb4 W
  have HV1 : Hid (∀ W : World, Calls Tryz.prog 62 #[.int .i64 p, dv (dgH a), sgv a.R a.S] W fun e w' => e = .returned (.bool (ver p a.R a.S (chal a.R p (dgH a)))) ∧ Below W.heap.size W w') := fun W => Sg.rverify_any p a.R a.S (dgH a) hp ha1 ha2 (dgH_wd a) W
  have HV2 : Hid (∀ W : World, Calls Tryz.prog 62 #[.int .i64 p, dv (dgH b), sgv b.R b.S] W fun e w' => e = .returned (.bool (ver p b.R b.S (chal b.R p (dgH b)))) ∧ Below W.heap.size W w') := fun W => Sg.rverify_any p b.R b.S (dgH b) hp hb1 hb2 (dgH_wd b) W
  have HC : Hid (∀ W : World, Below w.heap.size w W → Calls Tryz.prog 82 #[.int .i64 a.n, .int .i64 b.n, dv a.r, dv b.r, .slice A pa.length ca] W fun e w' => e = .returned (.bool (consB a.n b.n a.r b.r pa)) ∧ Below W.heap.size W w') := fun W hb => rconsist_any a.n b.n a.r b.r pa A ca W hl1 hc1 hm1 (hA.old hb)
  have HX : Hid (exs p a b pa = (ver p a.R a.S (chal a.R p (dgH a)) && ver p b.R b.S (chal b.R p (dgH b)) && consB a.n b.n a.r b.r pa)) := rfl
  clear hA ha1 ha2 ha3 ha4 hb1 hb2 hb3 hb4
  generalize ver p a.R a.S (chal a.R p (dgH a)) = v1 at *
  generalize ver p b.R b.S (chal b.R p (dgH b)) = v2 at *
  generalize consB a.n b.n a.r b.r pa = v3 at *
  generalize dgH a = d1 at *
  generalize dgH b = d2 at *
  have HA : Bk ((w.alloc (.cells (hcl a) 39)).alloc (.cells (hcl b) 39)) w.heap.size 39 (hcl a) := (Mw.Bk.new _ _ _).alloc _
  have HB : Bk ((w.alloc (.cells (hcl a) 39)).alloc (.cells (hcl b) 39)) (w.heap.size + 1) 39 (hcl b) := Mw.Bk.new' (by simp)
  have hb0 : Below w.heap.size w ((w.alloc (.cells (hcl a) 39)).alloc (.cells (hcl b) 39)) := by (repeat (first | with_reducible exact Below.refl _ _ | with_reducible refine bl_drewN ?_ _ | with_reducible refine Below.drew ?_ | with_reducible refine bl_alloc ?_ _ | with_reducible refine Below.alloc ?_ (by first | omega | (simp; done) | (simp; omega)) _ | with_reducible refine Below.setCell ?_ (by first | omega | (simp; done) | (simp; omega)) _ | with_reducible assumption))
  go_enter Tryz.func41, Tryz.ntmps41
  go_wp2_with fail
  change Code.wp _ _ _ _ ((w.alloc (.cells (hcl a) 39)).alloc (.cells (hcl b) 39))
  generalize (w.alloc (.cells (hcl a) 39)).alloc (.cells (hcl b) 39) = W0 at HA HB hb0 ⊢
  have x0 : W0.cell? ⟨w.heap.size, 0, none⟩ = some (.int .i64 a.n) := HA.cell 0
  have x1 : W0.cell? ⟨w.heap.size, 1, none⟩ = some (.int .i64 a.c) := HA.cell 1
  have x2 : W0.cell? ⟨w.heap.size, 2, none⟩ = some (.int .u32 a.r.1) := HA.cell 2
  have x3 : W0.cell? ⟨w.heap.size, 3, none⟩ = some (.int .u32 a.r.2.1) := HA.cell 3
  have x4 : W0.cell? ⟨w.heap.size, 4, none⟩ = some (.int .u32 a.r.2.2.1) := HA.cell 4
  have x5 : W0.cell? ⟨w.heap.size, 5, none⟩ = some (.int .u32 a.r.2.2.2) := HA.cell 5
  have x6 : W0.cell? ⟨w.heap.size, 6, none⟩ = some (.int .u32 a.l.1) := HA.cell 6
  have x7 : W0.cell? ⟨w.heap.size, 7, none⟩ = some (.int .u32 a.l.2.1) := HA.cell 7
  have x8 : W0.cell? ⟨w.heap.size, 8, none⟩ = some (.int .u32 a.l.2.2.1) := HA.cell 8
  have x9 : W0.cell? ⟨w.heap.size, 9, none⟩ = some (.int .u32 a.l.2.2.2) := HA.cell 9
  have xa : W0.cell? ⟨w.heap.size, 10, none⟩ = some (.int .i64 a.R) := HA.cell 10
  have xb : W0.cell? ⟨w.heap.size, 11, none⟩ = some (.int .i64 a.S) := HA.cell 11
  have xl := HA.lt
  have y0 : W0.cell? ⟨w.heap.size + 1, 0, none⟩ = some (.int .i64 b.n) := HB.cell 0
  have y1 : W0.cell? ⟨w.heap.size + 1, 1, none⟩ = some (.int .i64 b.c) := HB.cell 1
  have y2 : W0.cell? ⟨w.heap.size + 1, 2, none⟩ = some (.int .u32 b.r.1) := HB.cell 2
  have y3 : W0.cell? ⟨w.heap.size + 1, 3, none⟩ = some (.int .u32 b.r.2.1) := HB.cell 3
  have y4 : W0.cell? ⟨w.heap.size + 1, 4, none⟩ = some (.int .u32 b.r.2.2.1) := HB.cell 4
  have y5 : W0.cell? ⟨w.heap.size + 1, 5, none⟩ = some (.int .u32 b.r.2.2.2) := HB.cell 5
  have y6 : W0.cell? ⟨w.heap.size + 1, 6, none⟩ = some (.int .u32 b.l.1) := HB.cell 6
  have y7 : W0.cell? ⟨w.heap.size + 1, 7, none⟩ = some (.int .u32 b.l.2.1) := HB.cell 7
  have y8 : W0.cell? ⟨w.heap.size + 1, 8, none⟩ = some (.int .u32 b.l.2.2.1) := HB.cell 8
  have y9 : W0.cell? ⟨w.heap.size + 1, 9, none⟩ = some (.int .u32 b.l.2.2.2) := HB.cell 9
  have ya : W0.cell? ⟨w.heap.size + 1, 10, none⟩ = some (.int .i64 b.R) := HB.cell 10
  have yb : W0.cell? ⟨w.heap.size + 1, 11, none⟩ = some (.int .i64 b.S) := HB.cell 11
  have yl := HB.lt
  have R1 : Mm.RC 63 #[hev a] W0 (dv d1) := Mm.RC.of fun W _ => HS1.out W
  have R2 : Mm.RC 62 #[.int .i64 p, dv d1, sgv a.R a.S] W0 (.bool v1) := Mm.RC.of fun W _ => HV1.out W
  have R3 : Mm.RC 63 #[hev b] W0 (dv d2) := Mm.RC.of fun W _ => HS2.out W
  have R4 : Mm.RC 62 #[.int .i64 p, dv d2, sgv b.R b.S] W0 (.bool v2) := Mm.RC.of fun W _ => HV2.out W
  have R5 : Mm.RC 82 #[.int .i64 a.n, .int .i64 b.n, dv a.r, dv b.r, .slice A pa.length ca] W0 (.bool v3) := Mm.RC.of fun W hb => HC.out W (bl_trans hb0 hb)
  clear HS1 HS2 HV1 HV2 HC
  cases v1
  · have H : Hid (exs p a b pa = false) := HX.out
    clear HX
    refine Mm.region_ext (by kernel_rfl) (by kernel_rfl) ?_; (repeat (first | go_big_quiet_step ((exact Mm.RC.call (by with_reducible assumption) _)) | quiet_step ((exact Mm.RC.call (by with_reducible assumption) _)))); refine wpQuiet_nil ?_
    intro w2 hb3
    go_wp2_with fail
    go_ret
    exact ⟨ret_bool H.out.symm, bl_trans hb0 hb3⟩
  cases v2
  · have H : Hid (exs p a b pa = false) := HX.out
    clear HX
    refine Mm.region_ext (by kernel_rfl) (by kernel_rfl) ?_; (repeat (first | go_big_quiet_step ((exact Mm.RC.call (by with_reducible assumption) _)) | quiet_step ((exact Mm.RC.call (by with_reducible assumption) _)))); refine wpQuiet_nil ?_
    intro w2 hb3
    go_wp2_with fail
    go_ret
    exact ⟨ret_bool H.out.symm, bl_trans hb0 hb3⟩
  have H : Hid (exs p a b pa = v3) := HX.out
  clear HX
  refine Mm.region_ext (by kernel_rfl) (by kernel_rfl) ?_; (repeat (first | go_big_quiet_step ((exact Mm.RC.call (by with_reducible assumption) _)) | quiet_step ((exact Mm.RC.call (by with_reducible assumption) _)))); refine wpQuiet_nil ?_
  intro w2 hb3
  go_wp2_with fail
  go_ret
  exact ⟨ret_bool H.out.symm, bl_trans hb0 hb3⟩
end Go.Proofs.YtdikoffppjoomaaGreat.Ct
namespace Go.Proofs.YtdikoffppjoomaaGreat.Ct
open Go.RowKit Go.Proofs.YtdikoffppjoomaaGreat.Dg
open Go.Proofs.YtdikoffppjoomaaGreat.Mw (I64 ret_int ret_bool Bk bl_trans own_ints RdI RdR ge ge_lt gi ge_mem own_rows)
open Go.Proofs.YtdikoffppjoomaaGreat.Tr (RdD leaf root consE rcons_any consB rconsist_any)
open Go.Proofs.YtdikoffppjoomaaGreat.Sg (Wd sgv ver chal val sR sS rsign_yes)
set_option linter.unusedVariables false
set_option linter.unusedSimpArgs false
set_option maxRecDepth 100000

theorem rvalidF_any' (s : Int) : ∀ w : World, Calls Tryz.prog 45 #[.int .i64 s] w fun e w' => e = .returned (.bool (val s)) ∧ w = w' := fun w => Sg.rvalid_any s w
set_option maxHeartbeats 4000000 in
theorem rsealed_any (s : Int) (l : List Le) (A : Option Addr) (c : Nat) (w : World) (hs : I64 s) (hr : RdL w A l) (hlc : l.length ≤ c) : Calls Tryz.prog 34 #[.int .i64 s, .slice A l.length c] w fun e w' => e = .returned (.tuple #[hev (sld s l).1, .int .i64 (sld s l).2]) ∧ Below w.heap.size w w' := by
  have hr1 := hr.alloc (.cells #[.int .i64 0, .int .i64 0, .int .u32 0, .int .u32 0, .int .u32 0, .int .u32 0, .int .u32 0, .int .u32 0, .int .u32 0, .int .u32 0, .int .i64 0, .int .i64 0] 39)
  have HR := Lib.hid (rcheck_any l A c _ hr1 hlc)
  have HR1 := Lib.hid hr1
  have hZ : Bk (w.alloc (.cells #[.int .i64 0, .int .i64 0, .int .u32 0, .int .u32 0, .int .u32 0, .int .u32 0, .int .u32 0, .int .u32 0, .int .u32 0, .int .u32 0, .int .i64 0, .int .i64 0] 39)) w.heap.size 39 #[.int .i64 0, .int .i64 0, .int .u32 0, .int .u32 0, .int .u32 0, .int .u32 0, .int .u32 0, .int .u32 0, .int .u32 0, .int .u32 0, .int .i64 0, .int .i64 0] := Mw.Bk.new _ _ _
  have hb0 : Below w.heap.size w (w.alloc (.cells #[.int .i64 0, .int .i64 0, .int .u32 0, .int .u32 0, .int .u32 0, .int .u32 0, .int .u32 0, .int .u32 0, .int .u32 0, .int .u32 0, .int .i64 0, .int .i64 0] 39)) := by (repeat (first | with_reducible exact Below.refl _ _ | with_reducible refine bl_drewN ?_ _ | with_reducible refine Below.drew ?_ | with_reducible refine bl_alloc ?_ _ | with_reducible refine Below.alloc ?_ (by first | omega | (simp; done) | (simp; omega)) _ | with_reducible refine Below.setCell ?_ (by first | omega | (simp; done) | (simp; omega)) _ | with_reducible assumption))
  clear hr hr1
  by_cases hz : chk l = 0
  · have z0 : (chk l != 0) = false := by rw [hz]; rfl
    have hV := V_chk hz
    have hle := (inv_of hV).len
    have hlcu := len_curN l l.length
    have hcl : (cur l).length ≤ 1000 := by unfold cur; omega
    have HZ := Lib.hid hz
    have HV := Lib.hid hV
    have HSl : Hid (sld s l = if val s = true then (hd1 s l, 0) else (he0, 2)) := if_pos hz
    have hll : l.length ≤ 1000 := by omega
    have hd : (hd0 l).n = l.length ∧ (hd0 l).c = (cur l).length ∧ (hd0 l).r = root (l.map dgE) ∧ (hd0 l).l = root ((cur l).map dgC) := ⟨rfl, rfl, rfl, rfl⟩
    have HD := Lib.hid hd
    clear hz hV hlcu hle hd
    have hV0 := V_chk HZ.out
    have hcr : crr l = cur l := crr_0 HZ.out
    have Hcr := Lib.hid hcr
    clear hcr hV0
    cases hv : val s
    · have HS2 : Hid (sld s l = (he0, 2)) := HSl.out.trans (if_neg (by rw [hv]; simp))
      have HVl := Lib.hid (rvalidF_any' s)
      rw [hv] at HVl
      clear hv HSl HD hcl hll
      go_enter Tryz.func34, Tryz.ntmps34
      go_wp2_with fail
      refine HR.out.mono ?_
      rintro e w1 ⟨rfl, hb1⟩
      have hZ2 := hZ.old hb1
      have hb2 := bl_trans hb0 hb1
      clear hb0 hb1 hZ HR
      go_wp2_with fail
      refine (HVl.out _).mono ?_
      rintro e w2 ⟨rfl, rfl⟩
      have zf := fun o => hZ2.frozen o
      have z0 := hZ2.cell 0
      have z1 := hZ2.cell 1
      have z2 := hZ2.cell 2
      have z3 := hZ2.cell 3
      have z4 := hZ2.cell 4
      have z5 := hZ2.cell 5
      have z6 := hZ2.cell 6
      have z7 := hZ2.cell 7
      have z8 := hZ2.cell 8
      have z9 := hZ2.cell 9
      have za := hZ2.cell 10
      have zb := hZ2.cell 11
      have zl := hZ2.lt
      go_wp2_with fail
      clear zf z0 z1 z2 z3 z4 z5 z6 z7 z8 z9 za zb zl
      have hBz := (Mw.Bk.set (Mw.Bk.set (Mw.Bk.set (Mw.Bk.set (Mw.Bk.set (Mw.Bk.set (Mw.Bk.set (Mw.Bk.set (Mw.Bk.set (Mw.Bk.set (Mw.Bk.set (Mw.Bk.set hZ2 0 (.int .i64 0)) 1 (.int .i64 0)) 2 (.int .u32 0)) 3 (.int .u32 0)) 4 (.int .u32 0)) 5 (.int .u32 0)) 6 (.int .u32 0)) 7 (.int .u32 0)) 8 (.int .u32 0)) 9 (.int .u32 0)) 10 (.int .i64 0)) 11 (.int .i64 0))
      simp only [List.setIfInBounds_toArray, List.set_cons_zero, List.set_cons_succ] at hBz
      have hbz : Below w.heap.size w ((((((((((((w1.setCell ⟨w.heap.size, 0, none⟩ (.int .i64 0)).setCell ⟨w.heap.size, 1, none⟩ (.int .i64 0)).setCell ⟨w.heap.size, 2, none⟩ (.int .u32 0)).setCell ⟨w.heap.size, 3, none⟩ (.int .u32 0)).setCell ⟨w.heap.size, 4, none⟩ (.int .u32 0)).setCell ⟨w.heap.size, 5, none⟩ (.int .u32 0)).setCell ⟨w.heap.size, 6, none⟩ (.int .u32 0)).setCell ⟨w.heap.size, 7, none⟩ (.int .u32 0)).setCell ⟨w.heap.size, 8, none⟩ (.int .u32 0)).setCell ⟨w.heap.size, 9, none⟩ (.int .u32 0)).setCell ⟨w.heap.size, 10, none⟩ (.int .i64 0)).setCell ⟨w.heap.size, 11, none⟩ (.int .i64 0)) := by (repeat (first | with_reducible exact Below.refl _ _ | with_reducible refine bl_drewN ?_ _ | with_reducible refine Below.drew ?_ | with_reducible refine bl_alloc ?_ _ | with_reducible refine Below.alloc ?_ (by first | omega | (simp; done) | (simp; omega)) _ | with_reducible refine Below.setCell ?_ (by first | omega | (simp; done) | (simp; omega)) _ | with_reducible assumption))
      generalize ((((((((((((w1.setCell ⟨w.heap.size, 0, none⟩ (.int .i64 0)).setCell ⟨w.heap.size, 1, none⟩ (.int .i64 0)).setCell ⟨w.heap.size, 2, none⟩ (.int .u32 0)).setCell ⟨w.heap.size, 3, none⟩ (.int .u32 0)).setCell ⟨w.heap.size, 4, none⟩ (.int .u32 0)).setCell ⟨w.heap.size, 5, none⟩ (.int .u32 0)).setCell ⟨w.heap.size, 6, none⟩ (.int .u32 0)).setCell ⟨w.heap.size, 7, none⟩ (.int .u32 0)).setCell ⟨w.heap.size, 8, none⟩ (.int .u32 0)).setCell ⟨w.heap.size, 9, none⟩ (.int .u32 0)).setCell ⟨w.heap.size, 10, none⟩ (.int .i64 0)).setCell ⟨w.heap.size, 11, none⟩ (.int .i64 0)) = wz at hBz hbz ⊢
      have k0 := hBz.cell 0
      have k1 := hBz.cell 1
      have k2 := hBz.cell 2
      have k3 := hBz.cell 3
      have k4 := hBz.cell 4
      have k5 := hBz.cell 5
      have k6 := hBz.cell 6
      have k7 := hBz.cell 7
      have k8 := hBz.cell 8
      have k9 := hBz.cell 9
      have k10 := hBz.cell 10
      have k11 := hBz.cell 11
      refine bodyPost_ret (v := .tuple #[hev he0, .int .i64 (2)]) (by simp [results, Tryz.results34, go_sem, k0, k1, k2, k3, k4, k5, k6, k7, k8, k9, k10, k11]) rfl ⟨by rw [HS2.out] <;> rfl, hbz⟩
    have Hvs := Lib.hid hv
    have HVl := Lib.hid (rvalidF_any' s)
    rw [hv] at HVl
    clear hv
    go_enter Tryz.func34, Tryz.ntmps34
    go_wp2_with fail
    refine HR.out.mono ?_
    rintro e w1 ⟨rfl, hb1⟩
    have hZ1 := hZ.old hb1
    have hb2 := bl_trans hb0 hb1
    have hr2 := HR1.out.old hb1
    clear hb0 hb1 hZ HR
    go_wp2_with fail
    refine (HVl.out _).mono ?_
    rintro e w2 ⟨rfl, rfl⟩
    clear HVl
    go_wp2_with fail
    refine (rentries_any l A c _ hll hr2).mono ?_
    rintro e w3 ⟨D, cD, rfl, hcD, hmD, hrD, hb5⟩
    generalize hds : l.map dgE = ds at hcD hrD HD ⊢
    have hdl : ds.length ≤ 1000 := by rw [← hds]; simp; omega
    have Hds := Lib.hid hds
    clear hds
    have hr3 := hr2.old hb5
    have hZ3 := hZ1.old hb5
    have hb6 := bl_trans hb2 hb5
    clear hr2 hZ1 hb2 hb5
    go_wp2_with fail
    refine (Tr.rroot_ind ds.length ds D cD w3 (Nat.le_refl _) (by omega) hcD hmD hrD).mono ?_
    rintro e w4 ⟨rfl, hb7⟩
    rw [← HD.out.2.2.1]
    have hr4 := hr3.old hb7
    have hZ4 := hZ3.old hb7
    have hb8 := bl_trans hb6 hb7
    clear hr3 hZ3 hb6 hb7 hrD
    have HCu := Lib.hid (rcurrent_any l A c w4 hr4 hlc)
    rw [Hcr.out] at HCu
    go_wp2_with fail
    refine HCu.out.mono ?_
    rintro e w5a ⟨v, rfl, hown, hb9a⟩
    obtain ⟨B, cB, rfl, hcB, hrB, -⟩ := own_rows cfl_len (by omega) hown
    have hr5 := hr4.old hb9a
    have hZ5a := hZ4.old hb9a
    have hb8a := bl_trans hb8 hb9a
    clear hown hr4 hZ4 hb8 hb9a hrB hcB HCu
    have HLi := Lib.hid (rlive_any l A c w5a hr5 hlc)
    rw [Hcr.out] at HLi
    go_wp2_with fail
    refine HLi.out.mono ?_
    rintro e w5 ⟨E, cE, rfl, hcE, hmE, hrE, hb9⟩
    generalize hes : (cur l).map dgC = es at hcE hrE HD ⊢
    have hel : es.length ≤ 1000 := by rw [← hes]; simp; omega
    have Hes := Lib.hid hes
    clear hes
    have hZ5 := hZ5a.old hb9
    have hb10 := bl_trans hb8a hb9
    clear hr5 hZ5a hb8a hb9 HLi
    go_wp2_with fail
    refine (Tr.rroot_ind es.length es E cE w5 (Nat.le_refl _) (by omega) hcE hmE hrE).mono ?_
    rintro e w6 ⟨rfl, hb11⟩
    have hZ6 := hZ5.old hb11
    have hb12 := bl_trans hb10 hb11
    clear hrE hZ5 hb10 hb11
    rw [← HD.out.2.2.2]
    go_wp2_with fail
    have HQ : Hid (∀ W : World, Calls Tryz.prog 63 #[hev ⟨l.length, (cur l).length, (hd0 l).r, (hd0 l).l, 0, 0⟩] W fun e w' => e = .returned (dv (dgH (hd0 l))) ∧ Below W.heap.size W w') := fun W => rmessage_any ⟨l.length, (cur l).length, (hd0 l).r, (hd0 l).l, 0, 0⟩ (root_wd _) (root_wd _) W
    have HF : Hid (hd1 s l = ⟨l.length, (cur l).length, (hd0 l).r, (hd0 l).l, sR s (dgH (hd0 l)), sS s (dgH (hd0 l))⟩) := rfl
    have hwd := dgH_wd (hd0 l)
    generalize dgH (hd0 l) = d at HQ HF hwd
    generalize (hd0 l).r = r0 at HQ HF ⊢
    generalize (hd0 l).l = l0 at HQ HF ⊢
    generalize hn0 : (l.length : Int) = n0 at HQ HF ⊢
    generalize hc0 : ((cur l).length : Int) = c0 at HQ HF ⊢
    clear hn0 hc0 HD hcl hll hcD hcE hdl hel
    refine (HQ.out _).mono ?_
    rintro e w7 ⟨rfl, hb13⟩
    have hN7 : Bk w7 w6.heap.size 39 #[.int .i64 n0, .int .i64 c0, .int .u32 r0.1, .int .u32 r0.2.1, .int .u32 r0.2.2.1, .int .u32 r0.2.2.2, .int .u32 l0.1, .int .u32 l0.2.1, .int .u32 l0.2.2.1, .int .u32 l0.2.2.2, .int .i64 0, .int .i64 0] := (Mw.Bk.new _ _ _).old hb13
    have hZ7 := (hZ6.alloc (.cells #[.int .i64 n0, .int .i64 c0, .int .u32 r0.1, .int .u32 r0.2.1, .int .u32 r0.2.2.1, .int .u32 r0.2.2.2, .int .u32 l0.1, .int .u32 l0.2.1, .int .u32 l0.2.2.1, .int .u32 l0.2.2.2, .int .i64 0, .int .i64 0] 39)).old hb13
    have hb14 := bl_trans (Mw.bl_alloc hb12 _) hb13
    have hne : w.heap.size < w6.heap.size := hZ6.lt
    have hbN : w.heap.size ≤ w6.heap.size := by omega
    clear hZ6 hb12 hb13 HQ
    have HSg := Lib.hid (rsign_yes s d Hvs.out hwd w7)
    have HS2 : Hid (sld s l = (hd1 s l, 0)) := HSl.out.trans (if_pos Hvs.out)
    clear HSl
    generalize sR s d = SR at HSg HF
    generalize sS s d = SS at HSg HF
    go_wp2_with fail
    refine HSg.out.mono ?_
    rintro e w8 ⟨rfl, hb15⟩
    have hN8 := hN7.old hb15
    have hZ8 := hZ7.old hb15
    have hb16 := bl_trans hb14 hb15
    clear HSg hN7 hZ7 hb14 hb15
    have zf := fun o => hN8.frozen o
    have yf := fun o => hZ8.frozen o
    have x0 := hN8.cell 0
    have x1 := hN8.cell 1
    have x2 := hN8.cell 2
    have x3 := hN8.cell 3
    have x4 := hN8.cell 4
    have x5 := hN8.cell 5
    have x6 := hN8.cell 6
    have x7 := hN8.cell 7
    have x8 := hN8.cell 8
    have x9 := hN8.cell 9
    have xa := hN8.cell 10
    have xb := hN8.cell 11
    have zl := hN8.lt
    have y0 := hZ8.cell 0
    have y1 := hZ8.cell 1
    have y2 := hZ8.cell 2
    have y3 := hZ8.cell 3
    have y4 := hZ8.cell 4
    have y5 := hZ8.cell 5
    have y6 := hZ8.cell 6
    have y7 := hZ8.cell 7
    have y8 := hZ8.cell 8
    have y9 := hZ8.cell 9
    have ya := hZ8.cell 10
    have yb := hZ8.cell 11
    have yl := hZ8.lt
    have hZ9 := (hZ8.far (p := ⟨w6.heap.size, 10, none⟩) (Nat.ne_of_lt hne) (.int .i64 SR)).far (p := ⟨w6.heap.size, 11, none⟩) (Nat.ne_of_lt hne) (.int .i64 SS)
    go_wp2_with fail
    clear zf yf zl x0 x1 x2 x3 x4 x5 x6 x7 x8 x9 xa xb y0 y1 y2 y3 y4 y5 y6 y7 y8 y9 ya yb yl
    have hBz := (Mw.Bk.set (Mw.Bk.set (Mw.Bk.set (Mw.Bk.set (Mw.Bk.set (Mw.Bk.set (Mw.Bk.set (Mw.Bk.set (Mw.Bk.set (Mw.Bk.set (Mw.Bk.set (Mw.Bk.set hZ9 0 (.int .i64 n0)) 1 (.int .i64 c0)) 2 (.int .u32 r0.1)) 3 (.int .u32 r0.2.1)) 4 (.int .u32 r0.2.2.1)) 5 (.int .u32 r0.2.2.2)) 6 (.int .u32 l0.1)) 7 (.int .u32 l0.2.1)) 8 (.int .u32 l0.2.2.1)) 9 (.int .u32 l0.2.2.2)) 10 (.int .i64 SR)) 11 (.int .i64 SS))
    simp only [List.setIfInBounds_toArray, List.set_cons_zero, List.set_cons_succ] at hBz
    have hbz : Below w.heap.size w ((((((((((((((w8.setCell ⟨w6.heap.size, 10, none⟩ (.int .i64 SR)).setCell ⟨w6.heap.size, 11, none⟩ (.int .i64 SS)).setCell ⟨w.heap.size, 0, none⟩ (.int .i64 n0)).setCell ⟨w.heap.size, 1, none⟩ (.int .i64 c0)).setCell ⟨w.heap.size, 2, none⟩ (.int .u32 r0.1)).setCell ⟨w.heap.size, 3, none⟩ (.int .u32 r0.2.1)).setCell ⟨w.heap.size, 4, none⟩ (.int .u32 r0.2.2.1)).setCell ⟨w.heap.size, 5, none⟩ (.int .u32 r0.2.2.2)).setCell ⟨w.heap.size, 6, none⟩ (.int .u32 l0.1)).setCell ⟨w.heap.size, 7, none⟩ (.int .u32 l0.2.1)).setCell ⟨w.heap.size, 8, none⟩ (.int .u32 l0.2.2.1)).setCell ⟨w.heap.size, 9, none⟩ (.int .u32 l0.2.2.2)).setCell ⟨w.heap.size, 10, none⟩ (.int .i64 SR)).setCell ⟨w.heap.size, 11, none⟩ (.int .i64 SS)) := by (repeat (first | with_reducible exact Below.refl _ _ | with_reducible refine bl_drewN ?_ _ | with_reducible refine Below.drew ?_ | with_reducible refine bl_alloc ?_ _ | with_reducible refine Below.alloc ?_ (by first | omega | (simp; done) | (simp; omega)) _ | with_reducible refine Below.setCell ?_ (by first | omega | (simp; done) | (simp; omega)) _ | with_reducible assumption))
    generalize ((((((((((((((w8.setCell ⟨w6.heap.size, 10, none⟩ (.int .i64 SR)).setCell ⟨w6.heap.size, 11, none⟩ (.int .i64 SS)).setCell ⟨w.heap.size, 0, none⟩ (.int .i64 n0)).setCell ⟨w.heap.size, 1, none⟩ (.int .i64 c0)).setCell ⟨w.heap.size, 2, none⟩ (.int .u32 r0.1)).setCell ⟨w.heap.size, 3, none⟩ (.int .u32 r0.2.1)).setCell ⟨w.heap.size, 4, none⟩ (.int .u32 r0.2.2.1)).setCell ⟨w.heap.size, 5, none⟩ (.int .u32 r0.2.2.2)).setCell ⟨w.heap.size, 6, none⟩ (.int .u32 l0.1)).setCell ⟨w.heap.size, 7, none⟩ (.int .u32 l0.2.1)).setCell ⟨w.heap.size, 8, none⟩ (.int .u32 l0.2.2.1)).setCell ⟨w.heap.size, 9, none⟩ (.int .u32 l0.2.2.2)).setCell ⟨w.heap.size, 10, none⟩ (.int .i64 SR)).setCell ⟨w.heap.size, 11, none⟩ (.int .i64 SS)) = wz at hBz hbz ⊢
    have k0 := hBz.cell 0
    have k1 := hBz.cell 1
    have k2 := hBz.cell 2
    have k3 := hBz.cell 3
    have k4 := hBz.cell 4
    have k5 := hBz.cell 5
    have k6 := hBz.cell 6
    have k7 := hBz.cell 7
    have k8 := hBz.cell 8
    have k9 := hBz.cell 9
    have k10 := hBz.cell 10
    have k11 := hBz.cell 11
    refine bodyPost_ret (v := .tuple #[.agg #[.int .i64 n0, .int .i64 c0, .int .u32 r0.1, .int .u32 r0.2.1, .int .u32 r0.2.2.1, .int .u32 r0.2.2.2, .int .u32 l0.1, .int .u32 l0.2.1, .int .u32 l0.2.2.1, .int .u32 l0.2.2.2, .int .i64 SR, .int .i64 SS], .int .i64 (0)]) (by simp [results, Tryz.results34, go_sem, k0, k1, k2, k3, k4, k5, k6, k7, k8, k9, k10, k11]) rfl ⟨by rw [HS2.out, HF.out] <;> rfl, hbz⟩
  · have z0 : (chk l != 0) = true := bne_iff_ne.2 hz
    have HSl : Hid (sld s l = (he0, chk l)) := if_neg hz
    clear hz
    go_enter Tryz.func34, Tryz.ntmps34
    go_wp2_with fail
    refine HR.out.mono ?_
    rintro e w2 ⟨rfl, hb1⟩
    have hZ2 := hZ.old hb1
    have hb2 := bl_trans hb0 hb1
    clear hb0 hb1 hZ HR
    have zf := fun o => hZ2.frozen o
    have z0 := hZ2.cell 0
    have z1 := hZ2.cell 1
    have z2 := hZ2.cell 2
    have z3 := hZ2.cell 3
    have z4 := hZ2.cell 4
    have z5 := hZ2.cell 5
    have z6 := hZ2.cell 6
    have z7 := hZ2.cell 7
    have z8 := hZ2.cell 8
    have z9 := hZ2.cell 9
    have za := hZ2.cell 10
    have zb := hZ2.cell 11
    have zl := hZ2.lt
    go_wp2_with fail
    clear zf z0 z1 z2 z3 z4 z5 z6 z7 z8 z9 za zb zl
    have hBz := (Mw.Bk.set (Mw.Bk.set (Mw.Bk.set (Mw.Bk.set (Mw.Bk.set (Mw.Bk.set (Mw.Bk.set (Mw.Bk.set (Mw.Bk.set (Mw.Bk.set (Mw.Bk.set (Mw.Bk.set hZ2 0 (.int .i64 0)) 1 (.int .i64 0)) 2 (.int .u32 0)) 3 (.int .u32 0)) 4 (.int .u32 0)) 5 (.int .u32 0)) 6 (.int .u32 0)) 7 (.int .u32 0)) 8 (.int .u32 0)) 9 (.int .u32 0)) 10 (.int .i64 0)) 11 (.int .i64 0))
    simp only [List.setIfInBounds_toArray, List.set_cons_zero, List.set_cons_succ] at hBz
    have hbz : Below w.heap.size w ((((((((((((w2.setCell ⟨w.heap.size, 0, none⟩ (.int .i64 0)).setCell ⟨w.heap.size, 1, none⟩ (.int .i64 0)).setCell ⟨w.heap.size, 2, none⟩ (.int .u32 0)).setCell ⟨w.heap.size, 3, none⟩ (.int .u32 0)).setCell ⟨w.heap.size, 4, none⟩ (.int .u32 0)).setCell ⟨w.heap.size, 5, none⟩ (.int .u32 0)).setCell ⟨w.heap.size, 6, none⟩ (.int .u32 0)).setCell ⟨w.heap.size, 7, none⟩ (.int .u32 0)).setCell ⟨w.heap.size, 8, none⟩ (.int .u32 0)).setCell ⟨w.heap.size, 9, none⟩ (.int .u32 0)).setCell ⟨w.heap.size, 10, none⟩ (.int .i64 0)).setCell ⟨w.heap.size, 11, none⟩ (.int .i64 0)) := by (repeat (first | with_reducible exact Below.refl _ _ | with_reducible refine bl_drewN ?_ _ | with_reducible refine Below.drew ?_ | with_reducible refine bl_alloc ?_ _ | with_reducible refine Below.alloc ?_ (by first | omega | (simp; done) | (simp; omega)) _ | with_reducible refine Below.setCell ?_ (by first | omega | (simp; done) | (simp; omega)) _ | with_reducible assumption))
    generalize ((((((((((((w2.setCell ⟨w.heap.size, 0, none⟩ (.int .i64 0)).setCell ⟨w.heap.size, 1, none⟩ (.int .i64 0)).setCell ⟨w.heap.size, 2, none⟩ (.int .u32 0)).setCell ⟨w.heap.size, 3, none⟩ (.int .u32 0)).setCell ⟨w.heap.size, 4, none⟩ (.int .u32 0)).setCell ⟨w.heap.size, 5, none⟩ (.int .u32 0)).setCell ⟨w.heap.size, 6, none⟩ (.int .u32 0)).setCell ⟨w.heap.size, 7, none⟩ (.int .u32 0)).setCell ⟨w.heap.size, 8, none⟩ (.int .u32 0)).setCell ⟨w.heap.size, 9, none⟩ (.int .u32 0)).setCell ⟨w.heap.size, 10, none⟩ (.int .i64 0)).setCell ⟨w.heap.size, 11, none⟩ (.int .i64 0)) = wz at hBz hbz ⊢
    have k0 := hBz.cell 0
    have k1 := hBz.cell 1
    have k2 := hBz.cell 2
    have k3 := hBz.cell 3
    have k4 := hBz.cell 4
    have k5 := hBz.cell 5
    have k6 := hBz.cell 6
    have k7 := hBz.cell 7
    have k8 := hBz.cell 8
    have k9 := hBz.cell 9
    have k10 := hBz.cell 10
    have k11 := hBz.cell 11
    refine bodyPost_ret (v := .tuple #[hev he0, .int .i64 (chk l)]) (by simp [results, Tryz.results34, go_sem, k0, k1, k2, k3, k4, k5, k6, k7, k8, k9, k10, k11]) rfl ⟨by rw [HSl.out] <;> rfl, hbz⟩
end Go.Proofs.YtdikoffppjoomaaGreat.Ct
