/- Walk: the statement MonitorExact. -/
import Derived.Test.YtpgkiiaoddhdcaaMP
import Derived.WalkKit
import Derived.WalkSpells
import Derived.WalkLawsBesides
import Derived.Deep.QuietTactic
import Derived.BigQuiet
import Derived.Deep.Draws
import Derived.Deep.AppendLies
import Derived.Laws.OwnMore
import Derived.Laws.BytesArg
import Derived.Lib.Hide
import Derived.Deep.LoopGhost
import Derived.Deep.DeepCutAuto
import Derived.Deep.CutBlock
namespace Go.Proofs.Ytpgkiiaoddhdcaa.Mo
open Go.RowKit Go.Proofs.Ytpgkiiaoddhdcaa.Mw Go.Proofs.Ytpgkiiaoddhdcaa.Dc
set_option linter.unusedVariables false

theorem good_xy (r : Rl) (x0 x1 y0 y1 : Int) (A B : Option Addr) (c d : Nat) (w : World) (ha : RdI w .i64 A [x0, x1]) (hb : RdI w .i64 B [y0, y1]) :
    Calls Try.prog 16 #[rv r, .slice A 2 c, .slice B 2 d] w fun e w' => e = .returned (.bool (gd r [x0, x1] [y0, y1])) ∧ Below w.heap.size w w' := good_any r [x0, x1] [y0, y1] A B c d w (by simp) (by simp) ha hb
theorem rgood_xy (r : Rl) (x0 x1 y0 y1 : Int) (A B : Option Addr) (c d : Nat) (w : World) (ha : RdI w .i64 A [x0, x1]) (hb : RdI w .i64 B [y0, y1]) :
    Calls Try.prog 17 #[rv r, .slice A 2 c, .slice B 2 d] w fun e w' => e = .returned (.bool (gd r [x0, x1] [y0, y1])) ∧ Below w.heap.size w w' := rgood_any r [x0, x1] [y0, y1] A B c d w (by simp) (by simp) ha hb

set_option maxHeartbeats 8000000 in
set_option maxRecDepth 100000 in
theorem exact_any (t : List Int) (A : Option Addr) (c : Nat) (raw : Rl) (a : List Int) (B : Option Addr) (d : Nat) (b : List Int) (C : Option Addr) (f : Nat) (l : List Bool) (D : Option Addr) (g : Nat) (wl : List Bool) (E : Option Addr) (h : Nat) (ws : Bool) (w : World)
    (ht : t.length ≤ maxLen) (hti : ∀ n ∈ t, I64 n) (hrt : RdI w .i64 A t) (hla : a.length ≤ maxLen) (hra : RdI w .i64 B a) (hlb : b.length ≤ maxLen) (hrb : RdI w .i64 C b) (hll : l.length ≤ maxLen) (hrl : RdB w D l) (hlw : wl.length ≤ maxLen) (hrw : RdB w E wl) :
    Calls Try.prog 3 #[.slice A t.length c, rv raw, .slice B a.length d, .slice C b.length f, .slice D l.length g, wv E wl h ws] w fun e w' => e = .returned (.bool true) ∧ Below w.heap.size w w' := by
  unfold maxLen at ht hla hlb hll hlw
  by_cases hs : t.length ≤ 600 ∧ a.length ≤ 40 ∧ b.length ≤ 40 ∧ l.length ≤ 100 ∧ wl.length ≤ 40
  · obtain ⟨h6, ha4, hb4, hl1, hw4⟩ := hs
    have d1 : decide (t.length ≤ 600) = true := decide_eq_true h6
    have d2 : decide (40 < (a.length : Int)) = false := decide_eq_false (by omega)
    have d3 : decide (40 < (b.length : Int)) = false := decide_eq_false (by omega)
    have d4 : decide (100 < (l.length : Int)) = false := decide_eq_false (by omega)
    have d5 : decide (40 < (wl.length : Int)) = false := decide_eq_false (by omega)
    have Hti := Lib.hid hti
    have HA := Lib.hid hra
    have HB := Lib.hid hrb
    have HL := Lib.hid hrl
    have HW := Lib.hid hrw
    clear hti hra hrb hrl hrw
    go_enter Try.func3, Try.ntmps3
    go_wp2_with (go_at_call 8; refine (light_any t A c _).mono ?_; rintro e w' ⟨rfl, rfl⟩)
    refine (roll_any t A c _ ((hrt.alloc _).alloc _) (by omega) Hti.out).mono ?_
    rintro e w1 ⟨rfl, hd1, hb1⟩
    have hR1 : Bk w1 w.heap.size 24 (rc raw) := Bk.old (by (repeat (first | ((with_reducible refine Mw.Bk.new' ?_); (first | rfl | (simp; done) | (simp; omega))) | with_reducible refine Mw.Bk.alloc ?_ _ | with_reducible refine Mw.Bk.drewN ?_ _ | with_reducible refine Mw.Bk.drew ?_ | with_reducible assumption))) hb1
    have hW1 : Bk w1 (w.heap.size + 1) 27 (wc E wl h ws) := Bk.old (by (repeat (first | ((with_reducible refine Mw.Bk.new' ?_); (first | rfl | (simp; done) | (simp; omega))) | with_reducible refine Mw.Bk.alloc ?_ _ | with_reducible refine Mw.Bk.drewN ?_ _ | with_reducible refine Mw.Bk.drew ?_ | with_reducible assumption))) hb1
    have hc1 : Below w.heap.size w w1 := bl_trans (by (repeat (first | with_reducible exact Below.refl _ _ | with_reducible refine bl_drewN ?_ _ | with_reducible refine Below.drew ?_ | with_reducible refine bl_alloc ?_ _ | with_reducible refine Below.alloc ?_ (by first | omega | (simp; done) | (simp; omega)) _ | with_reducible refine Below.setCell ?_ (by first | omega | (simp; done) | (simp; omega)) _ | with_reducible assumption))) hb1
    have htp : (((w.alloc (.cells (rc raw) 24)).alloc (.cells (wc E wl h ws) 27)).heap.size) = w.heap.size + 2 := by simp
    rw [htp] at hd1
    clear hb1 Hti hrt htp
    go_wp2_with fail
    refine (monitor_any _ _ hd1).mono ?_
    rintro e w2 ⟨r, hck, hp1, hp2, hp3, rfl, hd2, hg2⟩
    have hrw : 1 ≤ r.w ∧ r.w ≤ 20 := by have := chk_bd hck; omega
    have hR2 := hR1.kept hg2 (by omega)
    have hW2 := hW1.kept hg2 (by omega)
    have hc2 : Below w.heap.size w w2 := bl_gb hc1 hg2 (by omega)
    have hz2 := hd2.lt
    clear hg2 hd1 hck hp1 hp2 hp3 hR1 hW1 hc1
    go_wp2_with fail
    refine (next_any _ 4 _ ((hd2.alloc _).alloc _) (by omega) (by omega)).mono ?_
    rintro e w3 ⟨v, ⟨v0, v1⟩, rfl, hd3, hg3⟩
    have hR3 : Bk w3 w.heap.size 24 (rc raw) := Bk.kept (by (repeat (first | with_reducible assumption | ((with_reducible refine Mw.Bk.new' ?_); (first | rfl | (simp; done) | (simp; omega))) | with_reducible refine Mw.Bk.alloc ?_ _ | with_reducible refine Mw.Bk.drew ?_ | with_reducible refine Mw.Bk.drewN ?_ _ | with_reducible refine Mw.Bk.set4 (a0 := .int .u32 0) (a1 := .int .u32 0) (a2 := .int .u32 0) (a3 := .int .u32 0) ?_ | ((with_reducible refine Mw.Bk.far ?_ ?_ _); rotate_left 1; focus (first | omega | (simp; done) | (simp; omega))) | with_reducible refine Mw.Bk.old ?_ (by assumption)))) hg3 (by omega)
    have hW3 : Bk w3 (w.heap.size + 1) 27 (wc E wl h ws) := Bk.kept (by (repeat (first | with_reducible assumption | ((with_reducible refine Mw.Bk.new' ?_); (first | rfl | (simp; done) | (simp; omega))) | with_reducible refine Mw.Bk.alloc ?_ _ | with_reducible refine Mw.Bk.drew ?_ | with_reducible refine Mw.Bk.drewN ?_ _ | with_reducible refine Mw.Bk.set4 (a0 := .int .u32 0) (a1 := .int .u32 0) (a2 := .int .u32 0) (a3 := .int .u32 0) ?_ | ((with_reducible refine Mw.Bk.far ?_ ?_ _); rotate_left 1; focus (first | omega | (simp; done) | (simp; omega))) | with_reducible refine Mw.Bk.old ?_ (by assumption)))) hg3 (by omega)
    have hr3 : Bk w3 w2.heap.size 24 (rc r) := Bk.kept (by (repeat (first | ((with_reducible refine Mw.Bk.new' ?_); (first | rfl | (simp; done) | (simp; omega))) | with_reducible refine Mw.Bk.alloc ?_ _ | with_reducible refine Mw.Bk.drewN ?_ _ | with_reducible refine Mw.Bk.drew ?_ | with_reducible assumption))) hg3 (by omega)
    have hq3 : Bk w3 (w2.heap.size + 1) 24 (rc r) := Bk.kept (by (repeat (first | ((with_reducible refine Mw.Bk.new' ?_); (first | rfl | (simp; done) | (simp; omega))) | with_reducible refine Mw.Bk.alloc ?_ _ | with_reducible refine Mw.Bk.drewN ?_ _ | with_reducible refine Mw.Bk.drew ?_ | with_reducible assumption))) hg3 (by omega)
    have hc3 : Below w.heap.size w w3 := bl_gb (by (repeat (first | with_reducible exact Below.refl _ _ | with_reducible refine bl_drewN ?_ _ | with_reducible refine Below.drew ?_ | with_reducible refine bl_alloc ?_ _ | with_reducible refine Below.alloc ?_ (by first | omega | (simp; done) | (simp; omega)) _ | with_reducible refine Below.setCell ?_ (by first | omega | (simp; done) | (simp; omega)) _ | with_reducible assumption))) hg3 (by omega)
    have hs3 : w2.heap.size + 2 ≤ w3.heap.size := by have := hg3.size; simpa using this
    clear hg3 hd2 hR2 hW2 hc2
    go_upto_block 0 with fail
    go_cut [] (fun wx => ∃ q : Rl, Di wx (w.heap.size + 2) ∧ Bk wx w.heap.size 24 (rc raw) ∧ Bk wx (w.heap.size + 1) 27 (wc E wl h ws) ∧ Bk wx w2.heap.size 24 (rc r) ∧ Bk wx (w2.heap.size + 1) 24 (rc q) ∧ Below w.heap.size w wx ∧ w2.heap.size + 2 ≤ wx.heap.size)
    case first =>
      have hv : v = 0 ∨ v = 1 ∨ v = 2 ∨ v = 3 := by omega
      rcases hv with hv | hv | hv | hv
      · have e0 : (v == 0) = true := by simp [hv]
        clear hv
        go_wp2_with fail
        refine (pick_any _ [-1, 200, 201] (some ⟨w3.heap.size, 0, none⟩) 3 _ (hd3.alloc _) (by decide) (by decide) (RdI.bk (T := 3) (cs := #[.int .i64 (-1), .int .i64 200, .int .i64 201]) (by (repeat (first | ((with_reducible refine Mw.Bk.new' ?_); (first | rfl | (simp; done) | (simp; omega))) | with_reducible refine Mw.Bk.alloc ?_ _ | with_reducible refine Mw.Bk.drewN ?_ _ | with_reducible refine Mw.Bk.drew ?_ | with_reducible assumption))) rfl) (Away.some (by simp; omega))).mono ?_
        rintro e w4 ⟨x, -, rfl, hd4, hg4⟩
        have hR4 := (hR3.alloc _).kept hg4 (by omega)
        have hW4 := (hW3.alloc _).kept hg4 (by omega)
        have hr4 := (hr3.alloc _).kept hg4 (by omega)
        have hq4 := (hq3.alloc _).kept hg4 (by omega)
        have hc4 : Below w.heap.size w w4 := bl_gb (bl_alloc hc3 _) hg4 (by omega)
        have hs4 : w2.heap.size + 2 ≤ w4.heap.size := by have := hg4.size; simp at this; omega
        clear hg4 hd3 hR3 hW3 hr3 hq3 hc3
        obtain ⟨⟨c0, c1, c2, c3⟩, f0, f1, f2, f3⟩ := bk4 hq4
        go_wp2_with fail
        go_meet
        exact ⟨⟨x, r.t, r.w, r.f⟩, hd4.far (by simp; omega) _, hR4.far (by simp; omega) _, hW4.far (by simp; omega) _, hr4.far (by simp) _, hq4.set _ (.int .i64 x), hc4.setCell (by simp; omega) _, by simp; omega⟩
      · have e0 : (v == 0) = false := by simp [hv]
        have e1 : (v == 1) = true := by simp [hv]
        clear hv
        go_wp2_with fail
        refine (pick_any _ [-1, 200, 201] (some ⟨w3.heap.size, 0, none⟩) 3 _ (hd3.alloc _) (by decide) (by decide) (RdI.bk (T := 3) (cs := #[.int .i64 (-1), .int .i64 200, .int .i64 201]) (by (repeat (first | ((with_reducible refine Mw.Bk.new' ?_); (first | rfl | (simp; done) | (simp; omega))) | with_reducible refine Mw.Bk.alloc ?_ _ | with_reducible refine Mw.Bk.drewN ?_ _ | with_reducible refine Mw.Bk.drew ?_ | with_reducible assumption))) rfl) (Away.some (by simp; omega))).mono ?_
        rintro e w4 ⟨x, -, rfl, hd4, hg4⟩
        have hR4 := (hR3.alloc _).kept hg4 (by omega)
        have hW4 := (hW3.alloc _).kept hg4 (by omega)
        have hr4 := (hr3.alloc _).kept hg4 (by omega)
        have hq4 := (hq3.alloc _).kept hg4 (by omega)
        have hc4 : Below w.heap.size w w4 := bl_gb (bl_alloc hc3 _) hg4 (by omega)
        have hs4 : w2.heap.size + 2 ≤ w4.heap.size := by have := hg4.size; simp at this; omega
        clear hg4 hd3 hR3 hW3 hr3 hq3 hc3
        obtain ⟨⟨c0, c1, c2, c3⟩, f0, f1, f2, f3⟩ := bk4 hq4
        go_wp2_with fail
        go_meet
        exact ⟨⟨r.p, x, r.w, r.f⟩, hd4.far (by simp; omega) _, hR4.far (by simp; omega) _, hW4.far (by simp; omega) _, hr4.far (by simp) _, hq4.set _ (.int .i64 x), hc4.setCell (by simp; omega) _, by simp; omega⟩
      · have e0 : (v == 0) = false := by simp [hv]
        have e1 : (v == 1) = false := by simp [hv]
        have e2 : (v == 2) = true := by simp [hv]
        clear hv
        go_wp2_with fail
        refine (pick_any _ [0, 20, 21] (some ⟨w3.heap.size, 0, none⟩) 3 _ (hd3.alloc _) (by decide) (by decide) (RdI.bk (T := 3) (cs := #[.int .i64 0, .int .i64 20, .int .i64 21]) (by (repeat (first | ((with_reducible refine Mw.Bk.new' ?_); (first | rfl | (simp; done) | (simp; omega))) | with_reducible refine Mw.Bk.alloc ?_ _ | with_reducible refine Mw.Bk.drewN ?_ _ | with_reducible refine Mw.Bk.drew ?_ | with_reducible assumption))) rfl) (Away.some (by simp; omega))).mono ?_
        rintro e w4 ⟨x, -, rfl, hd4, hg4⟩
        have hR4 := (hR3.alloc _).kept hg4 (by omega)
        have hW4 := (hW3.alloc _).kept hg4 (by omega)
        have hr4 := (hr3.alloc _).kept hg4 (by omega)
        have hq4 := (hq3.alloc _).kept hg4 (by omega)
        have hc4 : Below w.heap.size w w4 := bl_gb (bl_alloc hc3 _) hg4 (by omega)
        have hs4 : w2.heap.size + 2 ≤ w4.heap.size := by have := hg4.size; simp at this; omega
        clear hg4 hd3 hR3 hW3 hr3 hq3 hc3
        obtain ⟨⟨c0, c1, c2, c3⟩, f0, f1, f2, f3⟩ := bk4 hq4
        go_wp2_with fail
        go_meet
        exact ⟨⟨r.p, r.t, x, r.f⟩, hd4.far (by simp; omega) _, hR4.far (by simp; omega) _, hW4.far (by simp; omega) _, hr4.far (by simp) _, hq4.set _ (.int .i64 x), hc4.setCell (by simp; omega) _, by simp; omega⟩
      · have e0 : (v == 0) = false := by simp [hv]
        have e1 : (v == 1) = false := by simp [hv]
        have e2 : (v == 2) = false := by simp [hv]
        clear hv
        obtain ⟨⟨c0, c1, c2, c3⟩, -⟩ := bk4 hq3
        go_wp2_with fail
        refine (pick_any _ [0, r.w, r.w + 1] (some ⟨w3.heap.size, 0, none⟩) 3 _ (hd3.alloc _) (by simp) (by simp) (RdI.bk (T := 3) (cs := #[.int .i64 0, .int .i64 r.w, .int .i64 (r.w + 1)]) (by (repeat (first | ((with_reducible refine Mw.Bk.new' ?_); (first | rfl | (simp; done) | (simp; omega))) | with_reducible refine Mw.Bk.alloc ?_ _ | with_reducible refine Mw.Bk.drewN ?_ _ | with_reducible refine Mw.Bk.drew ?_ | with_reducible assumption))) rfl) (Away.some (by simp; omega))).mono ?_
        rintro e w4 ⟨x, -, rfl, hd4, hg4⟩
        have hR4 := (hR3.alloc _).kept hg4 (by omega)
        have hW4 := (hW3.alloc _).kept hg4 (by omega)
        have hr4 := (hr3.alloc _).kept hg4 (by omega)
        have hq4 := (hq3.alloc _).kept hg4 (by omega)
        have hc4 : Below w.heap.size w w4 := bl_gb (bl_alloc hc3 _) hg4 (by omega)
        have hs4 : w2.heap.size + 2 ≤ w4.heap.size := by have := hg4.size; simp at this; omega
        clear hg4 hd3 hR3 hW3 hr3 hq3 hc3
        obtain ⟨⟨c0, c1, c2, c3⟩, f0, f1, f2, f3⟩ := bk4 hq4
        go_wp2_with fail
        go_meet
        exact ⟨⟨r.p, r.t, r.w, x⟩, hd4.far (by simp; omega) _, hR4.far (by simp; omega) _, hW4.far (by simp; omega) _, hr4.far (by simp) _, hq4.set _ (.int .i64 x), hc4.setCell (by simp; omega) _, by simp; omega⟩
    case rest =>
      clear hd3 hR3 hW3 hr3 hq3 hc3 hs3
      obtain ⟨q, hd4, hR4, hW4, hr4, hq4, hc4, hs4⟩ := hcut
      clear v0 v1 hrw
      go_wp2_with fail
      refine (next_any _ 5 _ hd4 (by omega) (by omega)).mono ?_
      rintro e w5 ⟨x0, ⟨m0, m1⟩, rfl, hd5, hg5⟩
      go_wp2_with fail
      refine (next_any _ 5 _ hd5 (by omega) (by omega)).mono ?_
      rintro e w6 ⟨x1, ⟨m2, m3⟩, rfl, hd6, hg6⟩
      go_wp2_with fail
      refine (next_any _ 5 _ (hd6.alloc _) (by omega) (by omega)).mono ?_
      rintro e w7 ⟨y0, ⟨m4, m5⟩, rfl, hd7, hg7⟩
      go_wp2_with fail
      refine (next_any _ 5 _ hd7 (by omega) (by omega)).mono ?_
      rintro e w8 ⟨y1, ⟨m6, m7⟩, rfl, hd8, hg8⟩
      have hs6 := hd6.lt
      have hx7 : Bk w7 w6.heap.size 3 #[.int .i64 x0, .int .i64 (x1 - 1)] := Bk.kept (by (repeat (first | ((with_reducible refine Mw.Bk.new' ?_); (first | rfl | (simp; done) | (simp; omega))) | with_reducible refine Mw.Bk.alloc ?_ _ | with_reducible refine Mw.Bk.drewN ?_ _ | with_reducible refine Mw.Bk.drew ?_ | with_reducible assumption))) hg7 (by omega)
      have hx8 := hx7.kept hg8 (by omega)
      have hG8 : wc.grownBy w8 (some (w.heap.size + 2)) := gb_trans (gb_trans (gb_trans hg5 hg6) (gb_alloc (gb_refl _ _) (.cells #[.int .i64 x0, .int .i64 (x1 - 1)] 3))) (gb_trans hg7 hg8)
      have hR8 := hR4.kept hG8 (by omega)
      have hW8 := hW4.kept hG8 (by omega)
      have hr8 := hr4.kept hG8 (by omega)
      have hq8 := hq4.kept hG8 (by omega)
      have hc8 : Below w.heap.size w w8 := bl_gb hc4 hG8 (by omega)
      have hgx : w.heap.size + 2 < w6.heap.size := hs6
      have hgy : w.heap.size + 2 < w8.heap.size := hd8.lt
      clear hg5 hg6 hg7 hg8 hd4 hd5 hd6 hd7 hx7 hG8 hR4 hW4 hr4 hq4 hc4 hs4 hs6
      obtain ⟨⟨k0, k1, k2, k3⟩, -⟩ := bk4 hR8
      obtain ⟨⟨k4, k5, k6, k7⟩, -⟩ := bk4 hr8
      obtain ⟨⟨k8, k9, k10, k11⟩, -⟩ := bk4 hq8
      have z0 := hR8.lt
      have z1 := hr8.lt
      have z2 := hq8.lt
      go_wp2_with fail
      have hX9 := RdI.bk (kd := .i64) (l := [x0, x1 - 1]) (hx8.alloc (.cells #[.int .i64 y0, .int .i64 (y1 - 1)] 3)) rfl
      have hY9 := RdI.bk (kd := .i64) (l := [y0, y1 - 1]) (Bk.new w8 3 #[.int .i64 y0, .int .i64 (y1 - 1)]) rfl
      have hd9 := hd8.alloc (.cells #[.int .i64 y0, .int .i64 (y1 - 1)] 3)
      have hW9 := hW8.alloc (.cells #[.int .i64 y0, .int .i64 (y1 - 1)] 3)
      have hc9 : Below w.heap.size w (w8.alloc (.cells #[.int .i64 y0, .int .i64 (y1 - 1)] 3)) := bl_alloc hc8 _
      clear k0 k1 k2 k3 k4 k5 k6 k7 k8 k9 k10 k11 hR8 hW8 hr8 hq8 hc8 hx8 hd8
      generalize w8.alloc (.cells #[.int .i64 y0, .int .i64 (y1 - 1)] 3) = w9 at hX9 hY9 hd9 hW9 hc9 ⊢
      obtain ⟨X, hXe⟩ : ∃ X : List Int, X = [x0, x1 - 1] := ⟨_, rfl⟩
      obtain ⟨Y, hYe⟩ : ∃ Y : List Int, Y = [y0, y1 - 1] := ⟨_, rfl⟩
      have hXl : X.length = 2 := by rw [hXe]; rfl
      have hYl : Y.length = 2 := by rw [hYe]; rfl
      rw [← hXe] at hX9
      rw [← hYe] at hY9
      have e1 : Value.slice (some ⟨w6.heap.size, 0, none⟩) 2 2 = Value.slice (some ⟨w6.heap.size, 0, none⟩) X.length 2 := by rw [hXl]
      have e2 : Value.slice (some ⟨w8.heap.size, 0, none⟩) 2 2 = Value.slice (some ⟨w8.heap.size, 0, none⟩) Y.length 2 := by rw [hYl]
      rw [e1, e2]
      have hXb : X.length ≤ 40 := by omega
      have hYb : Y.length ≤ 40 := by omega
      clear e1 e2 hXl hYl hXe hYe
      go_loopw [112] (fun i wr => ∃ k : Nat, k ≤ 3 ∧ i = .int .i64 k ∧ Di wr (w.heap.size + 2) ∧ w9.grownBy wr (some (w.heap.size + 2))) (fun i _ => 3 - (intOf i).toNat)
      case atStart => exact ⟨0, by omega, rfl, hd9, gb_refl _ _⟩
      case round =>
        obtain ⟨k, hk, rfl, hd, hG⟩ := hrel
        have hW := hW9.kept hG (by omega)
        have hX := hX9.grown hG (Away.some (by simp; omega))
        have hY := hY9.grown hG (Away.some (by simp; omega))
        have hc : Below w.heap.size w wr := bl_gb hc9 hG (by omega)
        by_cases hlt : k < 3
        · have hix := rule_at r q raw k hlt
          obtain ⟨ρ, hρ⟩ : ∃ ρ, ρ = rsel k r q raw := ⟨_, rfl⟩
          rw [← hρ] at hix
          have hbk : decide ((k : Int) < 3) = true := decide_eq_true (by omega)
          have HAa := Lib.hid ((HA.out.old hc).alloc (.cells (rc ρ) 24))
          have HBa := Lib.hid ((HB.out.old hc).alloc (.cells (rc ρ) 24))
          have HWa := Lib.hid ((HW.out.old hc).alloc (.cells (rc ρ) 24))
          have HXa := Lib.hid (hX.alloc (.cells (rc ρ) 24))
          have HYa := Lib.hid (hY.alloc (.cells (rc ρ) 24))
          obtain ⟨rp, rq, re, hrun1, hrun2⟩ := run_both ρ l D g (by omega)
          have HR1 := Lib.hid hrun1
          have HR2 := Lib.hid hrun2
          obtain ⟨⟨j0, j1⟩, -⟩ := bk2 hW
          have zw := hW.lt
          have zw' : w.heap.size < wr.heap.size := by omega
          clear hρ hrun1 hrun2 hX hY
          go_wp2_with fail
          refine Mm.region_ext (by kernel_rfl) (by kernel_rfl) ?_; (repeat (first | go_big_quiet_step ((first | (go_at_call 14; exact Mm.calls_ext (check_any ρ _)) | (go_at_call 15; exact Mm.calls_ext (rcheck_any ρ _)) | (go_at_call 16; exact Mm.calls_ext (good_any ρ _ _ _ _ _ _ _ (by omega) (by omega) (by first | exact rdi_ext HAa.out _ | exact rdi_ext HBa.out _ | exact rdi_ext HXa.out _ | exact rdi_ext HYa.out _) (by first | exact rdi_ext HAa.out _ | exact rdi_ext HBa.out _ | exact rdi_ext HXa.out _ | exact rdi_ext HYa.out _))) | (go_at_call 17; exact Mm.calls_ext (rgood_any ρ _ _ _ _ _ _ _ (by omega) (by omega) (by first | exact rdi_ext HAa.out _ | exact rdi_ext HBa.out _ | exact rdi_ext HXa.out _ | exact rdi_ext HYa.out _) (by first | exact rdi_ext HAa.out _ | exact rdi_ext HBa.out _ | exact rdi_ext HXa.out _ | exact rdi_ext HYa.out _))) | (go_at_call 18; exact Mm.calls_ext (valid_any ρ wl E h ws _ (by omega) (rdb_ext HWa.out _))) | (go_at_call 19; exact Mm.calls_ext (rvalid_any ρ wl E h ws _ (by omega) (rdb_ext HWa.out _))))) | quiet_step ((first | (go_at_call 14; exact Mm.calls_ext (check_any ρ _)) | (go_at_call 15; exact Mm.calls_ext (rcheck_any ρ _)) | (go_at_call 16; exact Mm.calls_ext (good_any ρ _ _ _ _ _ _ _ (by omega) (by omega) (by first | exact rdi_ext HAa.out _ | exact rdi_ext HBa.out _ | exact rdi_ext HXa.out _ | exact rdi_ext HYa.out _) (by first | exact rdi_ext HAa.out _ | exact rdi_ext HBa.out _ | exact rdi_ext HXa.out _ | exact rdi_ext HYa.out _))) | (go_at_call 17; exact Mm.calls_ext (rgood_any ρ _ _ _ _ _ _ _ (by omega) (by omega) (by first | exact rdi_ext HAa.out _ | exact rdi_ext HBa.out _ | exact rdi_ext HXa.out _ | exact rdi_ext HYa.out _) (by first | exact rdi_ext HAa.out _ | exact rdi_ext HBa.out _ | exact rdi_ext HXa.out _ | exact rdi_ext HYa.out _))) | (go_at_call 18; exact Mm.calls_ext (valid_any ρ wl E h ws _ (by omega) (rdb_ext HWa.out _))) | (go_at_call 19; exact Mm.calls_ext (rvalid_any ρ wl E h ws _ (by omega) (rdb_ext HWa.out _))))))); refine wpQuiet_nil ?_
          intro u1 hu1
          have hρ1 : Bk u1 wr.heap.size 24 (rc ρ) := Bk.old (by (repeat (first | ((with_reducible refine Mw.Bk.new' ?_); (first | rfl | (simp; done) | (simp; omega))) | with_reducible refine Mw.Bk.alloc ?_ _ | with_reducible refine Mw.Bk.drewN ?_ _ | with_reducible refine Mw.Bk.drew ?_ | with_reducible assumption))) hu1
          have hb1 : Below wr.heap.size wr u1 := bl_trans (bl_alloc (Below.refl _ _) _) hu1
          clear hu1 hix HAa HBa HWa HXa HYa j0 j1
          obtain ⟨⟨i0, i1, i2, i3⟩, -⟩ := bk4 hρ1
          go_wp2_with fail
          refine (HR1.out _ ((HL.out.old hc).old hb1)).mono ?_
          rintro e u2 ⟨rfl, hu2⟩
          have hρ2 := hρ1.old hu2
          have hb2 := bl_trans hb1 hu2
          clear hu2 hρ1 hb1 i0 i1 i2 i3
          obtain ⟨⟨i0, i1, i2, i3⟩, -⟩ := bk4 hρ2
          go_wp2_with fail
          refine (HR2.out _ ((HL.out.old hc).old hb2)).mono ?_
          rintro e u3 ⟨rfl, hu3⟩
          have hρ3 := hρ2.old hu3
          have hb3 := bl_trans hb2 hu3
          have hG3 : w9.grownBy u3 (some (w.heap.size + 2)) := gb_below hG hb3
          have hd3 := hd.old hb3
          have s93 := hG3.size
          have zρ := hρ3.lt
          have zr : w.heap.size + 2 < wr.heap.size := hd.lt
          clear hu3 hρ2 hb2 hb3 i0 i1 i2 i3 HR1 HR2 hd hG hW hc
          go_wp2_with fail
          go_loopw [27] (fun i wi => ∃ (m : Nat) (zl : List Bool) (zA : Option Addr) (zc : Nat) (zs : Bool), m ≤ 6 ∧ i = .int .i64 m ∧ Di wi (w.heap.size + 2) ∧ Bk wi u3.heap.size 27 (Mo.wc zA zl zc zs) ∧ RdB wi zA zl ∧ zl.length ≤ 21 ∧ (∀ p, zA = some p → u3.heap.size < p.block) ∧ Bk wi wr.heap.size 24 (rc ρ) ∧ w9.grownBy wi (some (w.heap.size + 2))) (fun i _ => 6 - (intOf i).toNat)
          case atStart => exact ⟨0, [], none, 0, false, by omega, rfl, hd3.alloc _, by exact Bk.new' rfl, RdB.nil _ _, by simp, (fun p hp => by cases hp), hρ3.alloc _, gb_alloc hG3 _⟩
          case round =>
            clear hd3 hρ3 hG3
            obtain ⟨m, zl, zA, zc, zs, hm, rfl, hd4, hz4, hzr, hzl, hza, hρ4, hG4⟩ := hrel
            have Hza := Lib.hid hza
            clear hza
            by_cases hlt6 : m < 6
            · go_wp2_with fail
              refine (bool_any _ 2 _ hd4 (by omega) (by omega)).mono ?_
              rintro e wb ⟨gg, rfl, hdb, hgb⟩
              have hzb := hz4.kept hgb (by omega)
              have hzrb := hzr.grown hgb (fun p hp => by have := Hza.out p hp; omega)
              have hρb := hρ4.kept hgb (by omega)
              have hGb := gb_trans hG4 hgb
              have hWb := hW9.kept hGb (by omega)
              have hcb : Below w.heap.size w wb := bl_gb hc9 hGb (by omega)
              have hwb := HW.out.old hcb
              have sz := hzb.lt
              clear hgb hd4 hz4 hzr hρ4 hG4
              obtain ⟨⟨j0, j1⟩, -⟩ := bk2 hzb
              obtain ⟨⟨j2, j3⟩, -⟩ := bk2 hWb
              go_wp2_with fail
              go_loopw [198] (fun i w3' => ∃ j : Nat, j ≤ 2 ∧ i = .int .i64 j ∧ Below wb.heap.size wb w3') (fun i _ => 2 - (intOf i).toNat)
              case atStart => exact ⟨0, by omega, rfl, Below.refl _ _⟩
              case round =>
                clear j0 j1 j2 j3
                obtain ⟨j, hj, rfl, hb3⟩ := hrel
                have hz3 := hzrb.old hb3
                have hw3 := hwb.old hb3
                have hρ3 := hρb.old hb3
                have hzc := hzb.old hb3
                have sρ := hρ3.lt
                have sc := hzc.lt
                by_cases hj2 : j < 2
                · by_cases hj0 : j = 0
                  · subst hj0
                    obtain ⟨⟨g0, g1, g2, g3⟩, -⟩ := bk4 hρ3
                    have hix := watch_0 (.slice zA zl.length zc) (.bool zs) (.slice E wl.length h) (.bool ws)
                    go_wp2_with fail
                    refine (step_gen ρ zl zA zc zs gg _ (by omega) (RdB.alloc hz3 _)).mono ?_
                    rintro e v1 ⟨A1, c1, rfl, hr1, hl1', -, hv1⟩
                    have hρ1 := (hρ3.alloc (.cells (Mo.wc zA zl zc zs) 27)).old hv1
                    have hm1 : Bk v1 wr.heap.size 27 (Mo.wc zA zl zc zs) := Bk.old (by (repeat (first | ((with_reducible refine Mw.Bk.new' ?_); (first | rfl | (simp; done) | (simp; omega))) | with_reducible refine Mw.Bk.alloc ?_ _ | with_reducible refine Mw.Bk.drewN ?_ _ | with_reducible refine Mw.Bk.drew ?_ | with_reducible assumption))) hv1
                    have hrm1 := (RdB.alloc hz3 (.cells (Mo.wc zA zl zc zs) 27)).old hv1
                    have hbv1 : Below wb.heap.size wb v1 := bl_trans (bl_alloc hb3 _) hv1
                    clear hv1 hix g0 g1 g2 g3
                    obtain ⟨⟨i0, i1, i2, i3⟩, -⟩ := bk4 hρ1
                    obtain ⟨⟨n0, n1⟩, -⟩ := bk2 hm1
                    have y1' := hρ1.lt
                    have y2' := hm1.lt
                    go_wp2_with fail
                    refine (rstep_gen ρ zl zA zc zs gg _ (by omega) (hrm1.alloc _)).mono ?_
                    rintro e v2 ⟨A2, c2, rfl, hr2, hl2', -, hv2⟩
                    have hs1 : Bk v2 v1.heap.size 27 (Mo.wc A1 (stF ρ zl zs gg).1 c1 (stF ρ zl zs gg).2.1) := Bk.old (by (repeat (first | ((with_reducible refine Mw.Bk.new' ?_); (first | rfl | (simp; done) | (simp; omega))) | with_reducible refine Mw.Bk.alloc ?_ _ | with_reducible refine Mw.Bk.drewN ?_ _ | with_reducible refine Mw.Bk.drew ?_ | with_reducible assumption))) hv2
                    have hr1b := (hr1.alloc (.cells (Mo.wc A1 (stF ρ zl zs gg).1 c1 (stF ρ zl zs gg).2.1) 27)).old hv2
                    have hbv2 : Below wb.heap.size wb v2 := bl_trans (bl_alloc hbv1 _) hv2
                    clear hv2 i0 i1 i2 i3 n0 n1
                    obtain ⟨⟨n0, n1⟩, -⟩ := bk2 hs1
                    have y3' := hs1.lt
                    go_wp2_with fail
                    refine (same_any _ A1 A2 c1 c2 _ _ (by omega) (hr1b.alloc _) (hr2.alloc _)).mono ?_
                    rintro e v3 ⟨rfl, hv3⟩
                    have hbv3 : Below wb.heap.size wb v3 := bl_trans (bl_alloc hbv2 _) hv3
                    clear hv3
                    go_wp2_with fail
                    go_roundw
                    case rel => exact ⟨0 + 1, by omega, by go_num, hbv3⟩
                    case measure => simp [intOf]
                  · obtain rfl : j = 1 := by omega
                    obtain ⟨⟨g0, g1, g2, g3⟩, -⟩ := bk4 hρ3
                    have hix := watch_1 (.slice zA zl.length zc) (.bool zs) (.slice E wl.length h) (.bool ws)
                    go_wp2_with fail
                    refine (step_gen ρ wl E h ws gg _ (by omega) (RdB.alloc hw3 _)).mono ?_
                    rintro e v1 ⟨A1, c1, rfl, hr1, hl1', -, hv1⟩
                    have hρ1 := (hρ3.alloc (.cells (Mo.wc E wl h ws) 27)).old hv1
                    have hm1 : Bk v1 wr.heap.size 27 (Mo.wc E wl h ws) := Bk.old (by (repeat (first | ((with_reducible refine Mw.Bk.new' ?_); (first | rfl | (simp; done) | (simp; omega))) | with_reducible refine Mw.Bk.alloc ?_ _ | with_reducible refine Mw.Bk.drewN ?_ _ | with_reducible refine Mw.Bk.drew ?_ | with_reducible assumption))) hv1
                    have hrm1 := (RdB.alloc hw3 (.cells (Mo.wc E wl h ws) 27)).old hv1
                    have hbv1 : Below wb.heap.size wb v1 := bl_trans (bl_alloc hb3 _) hv1
                    clear hv1 hix g0 g1 g2 g3
                    obtain ⟨⟨i0, i1, i2, i3⟩, -⟩ := bk4 hρ1
                    obtain ⟨⟨n0, n1⟩, -⟩ := bk2 hm1
                    have y1' := hρ1.lt
                    have y2' := hm1.lt
                    go_wp2_with fail
                    refine (rstep_gen ρ wl E h ws gg _ (by omega) (hrm1.alloc _)).mono ?_
                    rintro e v2 ⟨A2, c2, rfl, hr2, hl2', -, hv2⟩
                    have hs1 : Bk v2 v1.heap.size 27 (Mo.wc A1 (stF ρ wl ws gg).1 c1 (stF ρ wl ws gg).2.1) := Bk.old (by (repeat (first | ((with_reducible refine Mw.Bk.new' ?_); (first | rfl | (simp; done) | (simp; omega))) | with_reducible refine Mw.Bk.alloc ?_ _ | with_reducible refine Mw.Bk.drewN ?_ _ | with_reducible refine Mw.Bk.drew ?_ | with_reducible assumption))) hv2
                    have hr1b := (hr1.alloc (.cells (Mo.wc A1 (stF ρ wl ws gg).1 c1 (stF ρ wl ws gg).2.1) 27)).old hv2
                    have hbv2 : Below wb.heap.size wb v2 := bl_trans (bl_alloc hbv1 _) hv2
                    clear hv2 i0 i1 i2 i3 n0 n1
                    obtain ⟨⟨n0, n1⟩, -⟩ := bk2 hs1
                    have y3' := hs1.lt
                    go_wp2_with fail
                    refine (same_any _ A1 A2 c1 c2 _ _ (by omega) (hr1b.alloc _) (hr2.alloc _)).mono ?_
                    rintro e v3 ⟨rfl, hv3⟩
                    have hbv3 : Below wb.heap.size wb v3 := bl_trans (bl_alloc hbv2 _) hv3
                    clear hv3
                    go_wp2_with fail
                    go_roundw
                    case rel => exact ⟨1 + 1, by omega, by go_num, hbv3⟩
                    case measure => simp [intOf]
                · obtain rfl : j = 2 := by omega
                  obtain ⟨⟨g0, g1, g2, g3⟩, -⟩ := bk4 hρ3
                  obtain ⟨⟨n0, n1⟩, -⟩ := bk2 hzc
                  go_wp2_with fail
                  refine (rstep_gen ρ zl zA zc zs gg _ (by omega) hz3).mono ?_
                  rintro e v2 ⟨A2, c2, rfl, hr2, hl2', hA2, hv2⟩
                  have HA2 := Lib.hid hA2
                  have hz5 := hzc.old hv2
                  have hρ5 := hρ3.old hv2
                  have hrz5 := hz3.old hv2
                  have hG5 : w9.grownBy v2 (some (w.heap.size + 2)) := gb_below (gb_below hGb hb3) hv2
                  have hd5 := (hdb.old hb3).old hv2
                  have s5 := hz5.lt
                  have sw := hG5.size
                  have s9 := hG5.size
                  clear hA2 hv2 g0 g1 g2 g3 n0 n1 hz3 hw3 hρ3 hzc hb3 hzb hzrb hρb hGb hdb hWb hcb hwb
                  obtain ⟨Z, hZ⟩ : ∃ Z, Z = stF ρ zl zs gg := ⟨_, rfl⟩
                  rw [← hZ] at hr2 hl2' ⊢
                  clear hZ
                  obtain ⟨Z1, Z2, Z3⟩ := Z
                  by_cases he : Z3 = 0
                  · subst he
                    obtain ⟨⟨n0, n1⟩, f0, f1⟩ := bk2 hz5
                    go_wp2_with fail
                    go_roundw
                    case rel =>
                      have hA : Away u3.heap.size A2 := fun p hp => by have := (HA2.out p hp).1; omega
                      refine ⟨m + 1, Z1, A2, c2, Z2, by omega, by go_num, ?_, ?_, ?_, hl2', fun p hp => by have := (HA2.out p hp).1; omega, ?_, ?_⟩
                      · exact ((hd5.far (p := ⟨u3.heap.size, 0, none⟩) (show w.heap.size + 2 < u3.heap.size by omega) _).far (p := ⟨u3.heap.size, 1, none⟩) (show w.heap.size + 2 < u3.heap.size by omega) _).alloc _
                      · exact ((hz5.set 0 (.slice A2 Z1.length c2)).set 1 (.bool Z2)).alloc _
                      · exact ((hr2.far (p := ⟨u3.heap.size, 0, none⟩) hA _).far (p := ⟨u3.heap.size, 1, none⟩) hA _).alloc _
                      · exact ((hρ5.far (p := ⟨u3.heap.size, 0, none⟩) (by simp; omega) _).far (p := ⟨u3.heap.size, 1, none⟩) (by simp; omega) _).alloc _
                      · exact gb_alloc (gb_set (gb_set hG5 (p := ⟨u3.heap.size, 0, none⟩) (Or.inr s93) _) (p := ⟨u3.heap.size, 1, none⟩) (Or.inr s93) _) _
                    case measure => simp [intOf]; omega
                  · have he' : decide (Z3 = 0) = false := decide_eq_false he
                    go_wp2_with fail
                    go_roundw
                    case rel => exact ⟨m + 1, zl, zA, zc, zs, by omega, by go_num, hd5.alloc _, hz5.alloc _, hrz5.alloc _, hzl, Hza.out, hρ5.alloc _, gb_alloc hG5 _⟩
                    case measure => simp [intOf]; omega
            · go_wp2_with fail
              go_roundw
              case rel => exact ⟨k + 1, by omega, by go_num, hd4, hG4⟩
              case measure => simp [intOf]; omega
        · obtain rfl : k = 3 := by omega
          go_wp2_with fail
          refine (sane_any _).mono ?_
          rintro e u5 ⟨rfl, hu5⟩
          go_wp2_with fail
          go_ret
          exact ⟨rfl, bl_trans hc hu5⟩
  · clear hti hrt hra hrb hrl hrw
    by_cases h0 : t.length ≤ 600
    rotate_left
    · have d0 : decide (t.length ≤ 600) = false := decide_eq_false h0
      go_enter Try.func3, Try.ntmps3
      go_wp2_with (go_at_call 8; refine (light_any t A c _).mono ?_; rintro e w' ⟨rfl, rfl⟩)
      refine (sane_any _).mono ?_
      rintro e w1 ⟨rfl, hb⟩
      go_wp2_with fail
      go_ret
      exact ⟨rfl, bl_trans (by (repeat (first | with_reducible exact Below.refl _ _ | with_reducible refine bl_drewN ?_ _ | with_reducible refine Below.drew ?_ | with_reducible refine bl_alloc ?_ _ | with_reducible refine Below.alloc ?_ (by first | omega | (simp; done) | (simp; omega)) _ | with_reducible refine Below.setCell ?_ (by first | omega | (simp; done) | (simp; omega)) _ | with_reducible assumption))) hb⟩
    have d0 : decide (t.length ≤ 600) = true := decide_eq_true h0
    by_cases h1 : a.length ≤ 40
    rotate_left
    · have d1 : decide (40 < (a.length : Int)) = true := decide_eq_true (by omega)
      go_enter Try.func3, Try.ntmps3
      go_wp2_with (go_at_call 8; refine (light_any t A c _).mono ?_; rintro e w' ⟨rfl, rfl⟩)
      refine (sane_any _).mono ?_
      rintro e w1 ⟨rfl, hb⟩
      go_wp2_with fail
      go_ret
      exact ⟨rfl, bl_trans (by (repeat (first | with_reducible exact Below.refl _ _ | with_reducible refine bl_drewN ?_ _ | with_reducible refine Below.drew ?_ | with_reducible refine bl_alloc ?_ _ | with_reducible refine Below.alloc ?_ (by first | omega | (simp; done) | (simp; omega)) _ | with_reducible refine Below.setCell ?_ (by first | omega | (simp; done) | (simp; omega)) _ | with_reducible assumption))) hb⟩
    have d1 : decide (40 < (a.length : Int)) = false := decide_eq_false (by omega)
    by_cases h2 : b.length ≤ 40
    rotate_left
    · have d2 : decide (40 < (b.length : Int)) = true := decide_eq_true (by omega)
      go_enter Try.func3, Try.ntmps3
      go_wp2_with (go_at_call 8; refine (light_any t A c _).mono ?_; rintro e w' ⟨rfl, rfl⟩)
      refine (sane_any _).mono ?_
      rintro e w1 ⟨rfl, hb⟩
      go_wp2_with fail
      go_ret
      exact ⟨rfl, bl_trans (by (repeat (first | with_reducible exact Below.refl _ _ | with_reducible refine bl_drewN ?_ _ | with_reducible refine Below.drew ?_ | with_reducible refine bl_alloc ?_ _ | with_reducible refine Below.alloc ?_ (by first | omega | (simp; done) | (simp; omega)) _ | with_reducible refine Below.setCell ?_ (by first | omega | (simp; done) | (simp; omega)) _ | with_reducible assumption))) hb⟩
    have d2 : decide (40 < (b.length : Int)) = false := decide_eq_false (by omega)
    by_cases h3 : l.length ≤ 100
    rotate_left
    · have d3 : decide (100 < (l.length : Int)) = true := decide_eq_true (by omega)
      go_enter Try.func3, Try.ntmps3
      go_wp2_with (go_at_call 8; refine (light_any t A c _).mono ?_; rintro e w' ⟨rfl, rfl⟩)
      refine (sane_any _).mono ?_
      rintro e w1 ⟨rfl, hb⟩
      go_wp2_with fail
      go_ret
      exact ⟨rfl, bl_trans (by (repeat (first | with_reducible exact Below.refl _ _ | with_reducible refine bl_drewN ?_ _ | with_reducible refine Below.drew ?_ | with_reducible refine bl_alloc ?_ _ | with_reducible refine Below.alloc ?_ (by first | omega | (simp; done) | (simp; omega)) _ | with_reducible refine Below.setCell ?_ (by first | omega | (simp; done) | (simp; omega)) _ | with_reducible assumption))) hb⟩
    have d3 : decide (100 < (l.length : Int)) = false := decide_eq_false (by omega)
    by_cases h4 : wl.length ≤ 40
    rotate_left
    · have d4 : decide (40 < (wl.length : Int)) = true := decide_eq_true (by omega)
      go_enter Try.func3, Try.ntmps3
      go_wp2_with (go_at_call 8; refine (light_any t A c _).mono ?_; rintro e w' ⟨rfl, rfl⟩)
      refine (sane_any _).mono ?_
      rintro e w1 ⟨rfl, hb⟩
      go_wp2_with fail
      go_ret
      exact ⟨rfl, bl_trans (by (repeat (first | with_reducible exact Below.refl _ _ | with_reducible refine bl_drewN ?_ _ | with_reducible refine Below.drew ?_ | with_reducible refine bl_alloc ?_ _ | with_reducible refine Below.alloc ?_ (by first | omega | (simp; done) | (simp; omega)) _ | with_reducible refine Below.setCell ?_ (by first | omega | (simp; done) | (simp; omega)) _ | with_reducible assumption))) hb⟩
    have d4 : decide (40 < (wl.length : Int)) = false := decide_eq_false (by omega)
    exact absurd ⟨h0, h1, h2, h3, h4⟩ hs
end Go.Proofs.Ytpgkiiaoddhdcaa.Mo
