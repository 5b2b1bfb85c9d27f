/- Walks: Good of the program and of the reference. -/
import Derived.Test.YtpgkiiaoddhdcaaMC
import Derived.WalkKit
import Derived.WalkSpells
import Derived.WalkLawsBesides
import Derived.Deep.QuietTactic
import Derived.BigQuiet
import Derived.Deep.Draws
import Derived.Deep.AppendLies
import Derived.Laws.OwnMore
import Derived.Laws.BytesArg
import Derived.Lib.Hide
import Derived.Deep.LoopGhost
import Derived.RegionTactic
namespace Go.Proofs.Ytpgkiiaoddhdcaa.Mo
open Go.RowKit Go.Proofs.Ytpgkiiaoddhdcaa.Mw Go.Proofs.Ytpgkiiaoddhdcaa.Dc
set_option linter.unusedVariables false

open Classical in
/-- A list or one of its elements is too great. -/
noncomputable def tg (l : List Int) : Bool := decide (24 < l.length ∨ ∃ j, j < l.length ∧ 200 < gi l j)
theorem tg_len {l : List Int} (h : 24 < l.length) : tg l = true := decide_eq_true (.inl h)
theorem tg_at {l : List Int} (j : Nat) (h : j < l.length) (h' : 200 < gi l j) : tg l = true := decide_eq_true (.inr ⟨j, h, h'⟩)
theorem tg_no {l : List Int} (h : l.length ≤ 24) (h' : ∀ j, j < l.length → gi l j ≤ 200) : tg l = false := decide_eq_false (by
  rintro (h1 | ⟨j, h1, h2⟩)
  · omega
  · have := h' j h1; omega)
theorem tg_of {l : List Int} (h : tg l = false) : l.length ≤ 24 ∧ ∀ j, j < l.length → gi l j ≤ 200 := by
  have := of_decide_eq_false h
  refine ⟨?_, fun j hj => ?_⟩
  · rcases Nat.lt_or_ge 24 l.length with h1 | h1
    · exact absurd (.inl h1) this
    · exact h1
  · rcases Int.lt_or_le 200 (gi l j) with h1 | h1
    · exact absurd (.inr ⟨j, hj, h1⟩) this
    · exact h1
theorem gt200_any (n : Int) (w : World) : Calls Try.prog 34 #[.int .i64 n] w fun e w' => e = .returned (.bool (decide (200 < n))) ∧ w = w' := by
  go_enter Try.func34, Try.ntmps34
  go_wp2_with fail
  go_ret
  exact ⟨rfl, rfl⟩
open Classical in
/-- Where the first great element is. -/
noncomputable def ixf (l : List Int) : Int := if h : ∃ j, j < l.length ∧ 200 < gi l j ∧ ∀ i, i < j → gi l i ≤ 200 then ((Classical.choose h : Nat) : Int) else -1
abbrev fv : Value := .func (.func 34) #[] #[]
/-- An index that is below 0 exactly if no element is great. -/
def Ix (l : List Int) (w : World) (e : Ending) (w' : World) : Prop := ∃ x : Int, ((0 ≤ x ∧ ∃ j, j < l.length ∧ 200 < gi l j) ∨ (x < 0 ∧ ∀ j, j < l.length → gi l j ≤ 200)) ∧ e = .returned (.int .i64 x) ∧ w = w'
set_option maxHeartbeats 400000 in
theorem index_any (l : List Int) (A : Option Addr) (c : Nat) (w : World) (hl : l.length ≤ 1000000) (hr : RdI w .i64 A l) :
    Calls Try.prog 35 #[.slice A l.length c, fv] w (Ix l w) := by
  go_enter Try.func35, Try.ntmps35
  go_wp2_with fail
  go_loop [8] (fun i => ∃ k : Nat, k ≤ l.length ∧ i = .int .i64 k ∧ ∀ j, j < k → gi l j ≤ 200) (fun i => l.length - (intOf i).toNat)
  case atStart => exact ⟨0, by omega, rfl, fun j hj => by omega⟩
  case round =>
    obtain ⟨k, hk, rfl, hok⟩ := hrel
    have Hok := Lib.hid hok
    clear hok
    by_cases hlt : k < l.length
    · obtain ⟨b, off, rfl, hbl, hc⟩ := hr k hlt
      by_cases hg : 200 < gi l k
      · have hd : decide (200 < gi l k) = true := decide_eq_true hg
        go_wp2_with (go_at_call 34; refine (gt200_any _ _).mono ?_; rintro e w' ⟨rfl, rfl⟩)
        go_ret
        exact ⟨k, .inl ⟨by omega, k, hlt, hg⟩, rfl, rfl⟩
      · have hd : decide (200 < gi l k) = false := decide_eq_false hg
        go_wp2_with (go_at_call 34; refine (gt200_any _ _).mono ?_; rintro e w' ⟨rfl, rfl⟩)
        go_round
        case rel =>
          refine ⟨k + 1, by omega, by go_num, fun j hj => ?_⟩
          by_cases e : j = k
          · subst e; omega
          · exact Hok.out j (by omega)
        case measure => simp [intOf]; omega
    · go_wp2_with fail
      go_ret
      exact ⟨-1, .inr ⟨by omega, fun j hj => Hok.out j (by omega)⟩, rfl, rfl⟩
set_option maxHeartbeats 400000 in
theorem great_any (l : List Int) (A : Option Addr) (c : Nat) (w : World) (hl : l.length ≤ 1000000) (hr : RdI w .i64 A l) :
    Calls Try.prog 27 #[.slice A l.length c] w fun e w' => e = .returned (.bool (tg l)) ∧ w = w' := by
  by_cases h : 24 < l.length
  · have He := Lib.hid (tg_len h)
    have hd : decide (24 < (l.length : Int)) = true := decide_eq_true (by omega)
    go_enter Try.func27, Try.ntmps27
    go_wp2_with fail
    go_ret
    exact ⟨ret_bool He.out.symm, rfl⟩
  · have hd : decide (24 < (l.length : Int)) = false := decide_eq_false (by omega)
    have hcf : Calls Try.prog 33 #[.slice A l.length c, fv] w fun e w' => e = .returned (.bool (tg l)) ∧ w = w' := by
      go_enter Try.func33, Try.ntmps33
      go_wp2_with fail
      refine (index_any l A c _ hl hr).mono ?_
      rintro e w1 ⟨x, hx, rfl, rfl⟩
      rcases hx with ⟨h0, j, hj, hg⟩ | ⟨h0, hno⟩
      · have He := Lib.hid (tg_at j hj hg)
        clear hg
        go_wp2_with fail
        go_ret
        exact ⟨ret_bool He.out.symm, rfl⟩
      · have He := Lib.hid (tg_no (by omega) hno)
        clear hno
        go_wp2_with fail
        go_ret
        exact ⟨ret_bool (by rw [He.out]; exact decide_eq_false (by omega)), rfl⟩
    go_enter Try.func27, Try.ntmps27
    go_wp2_with fail
    refine hcf.mono ?_
    rintro e w1 ⟨rfl, rfl⟩
    go_wp2_with fail
    go_ret
    exact ⟨rfl, rfl⟩
/-- The distance. -/
def ds (a b : Int) : Int := if a ≤ b then b - a else a - b
theorem dist_any (a b : Int) (ha : -1000000 ≤ a) (ha' : a ≤ 1000000) (hb : -1000000 ≤ b) (hb' : b ≤ 1000000) (w : World) :
    Calls Try.prog 28 #[.int .i64 a, .int .i64 b] w fun e w' => e = .returned (.int .i64 (ds a b)) ∧ w = w' := by
  go_enter Try.func28, Try.ntmps28
  go_wp2_with fail
  all_goals (go_ret; exact ⟨ret_int (by unfold ds; split <;> omega), rfl⟩)
theorem size_any (a : Int) (ha : -1000000 ≤ a) (ha' : a ≤ 1000000) (w : World) :
    Calls Try.prog 29 #[.int .i64 a] w fun e w' => e = .returned (.int .i64 (ds a 0)) ∧ w = w' := by
  go_enter Try.func29, Try.ntmps29
  go_wp2_with fail
  all_goals (go_ret; exact ⟨ret_int (by unfold ds; split <;> omega), rfl⟩)
/-- A mark; not below 0. -/
def mx (x : Int) : Int := if 0 ≤ x then x else 0
/-- The sum of the first k marks. -/
def sm (l : List Int) : Nat → Int
  | 0 => 0
  | k + 1 => sm l k + mx (gi l k)
theorem mx_bd (x : Int) (h : x ≤ 200) : 0 ≤ mx x ∧ mx x ≤ 200 := by unfold mx; split <;> omega
theorem sm_bd (l : List Int) : ∀ k, (∀ j, j < k → gi l j ≤ 200) → 0 ≤ sm l k ∧ sm l k ≤ 200 * k
  | 0, _ => by simp [sm]
  | k + 1, h => by
    have := sm_bd l k (fun j hj => h j (by omega))
    have := mx_bd _ (h k (by omega))
    unfold sm
    omega
open Classical in
/-- Marks are near enough. -/
noncomputable def gd (r : Rl) (a b : List Int) : Bool := decide (chk r = true ∧ a.length = b.length ∧ tg a = false ∧ tg b = false ∧ (∀ j, j < a.length → ds (mx (gi a j)) (mx (gi b j)) ≤ r.p) ∧ ds (sm a a.length) (sm b b.length) ≤ r.t)
theorem gd_no {r : Rl} {a b : List Int} (h : ¬ (chk r = true ∧ a.length = b.length ∧ tg a = false ∧ tg b = false ∧ (∀ j, j < a.length → ds (mx (gi a j)) (mx (gi b j)) ≤ r.p) ∧ ds (sm a a.length) (sm b b.length) ≤ r.t)) : gd r a b = false := decide_eq_false h
theorem gd_end {r : Rl} {a b : List Int} (h1 : chk r = true) (h2 : a.length = b.length) (h3 : tg a = false) (h4 : tg b = false) (h5 : ∀ j, j < a.length → ds (mx (gi a j)) (mx (gi b j)) ≤ r.p) : gd r a b = decide (ds (sm a a.length) (sm b b.length) ≤ r.t) := by
  unfold gd
  rw [Bool.eq_iff_iff, decide_eq_true_iff, decide_eq_true_iff]
  exact ⟨fun h => h.2.2.2.2.2, fun h => ⟨h1, h2, h3, h4, h5, h⟩⟩

set_option maxHeartbeats 2000000 in
theorem good_any (r : Rl) (a b : List Int) (A B : Option Addr) (c d : Nat) (w : World) (hla : a.length ≤ 1000000) (hlb : b.length ≤ 1000000) (hra : RdI w .i64 A a) (hrb : RdI w .i64 B b) :
    Calls Try.prog 16 #[rv r, .slice A a.length c, .slice B b.length d] w fun e w' => e = .returned (.bool (gd r a b)) ∧ Below w.heap.size w w' := by
  cases hc : chk r
  · have He : Hid (gd r a b = false) := gd_no (fun h => by rw [hc] at h; exact absurd h.1 (by simp))
    have Hc := Lib.hid hc
    clear hc
    go_enter Try.func16, Try.ntmps16
    go_wp2_with fail
    refine (check_no r Hc.out _).mono ?_
    rintro e w1 ⟨rfl, hb1⟩
    go_wp2_with fail
    go_ret
    exact ⟨ret_bool He.out.symm, bl_trans (by (repeat (first | with_reducible exact Below.refl _ _ | with_reducible refine bl_drewN ?_ _ | with_reducible refine Below.drew ?_ | with_reducible refine bl_alloc ?_ _ | with_reducible refine Below.alloc ?_ (by first | omega | (simp; done) | (simp; omega)) _ | with_reducible refine Below.setCell ?_ (by first | omega | (simp; done) | (simp; omega)) _ | with_reducible assumption))) hb1⟩
  have Hc := Lib.hid hc
  clear hc
  by_cases hl : a.length = b.length
  · have hn : ((a.length : Int) != b.length) = false := by simp [hl]
    have hl1 : a.length ≤ b.length := by omega
    have hl2 : b.length ≤ a.length := by omega
    have Hl := Lib.hid hl
    clear hl
    cases hta : tg a
    · cases htb : tg b
      · obtain ⟨t1, t2⟩ := tg_of hta
        obtain ⟨t3, t4⟩ := tg_of htb
        have T2 := Lib.hid t2
        have T4 := Lib.hid t4
        have Hta := Lib.hid hta
        have Htb := Lib.hid htb
        have hcb := chk_bd Hc.out
        clear t2 t4
        go_enter Try.func16, Try.ntmps16
        go_wp2_with fail
        refine (check_yes r Hc.out _).mono ?_
        rintro e w1 ⟨rfl, hb1⟩
        have hB1 : Bk w1 w.heap.size 24 (rc r) := Bk.old (by (repeat (first | ((with_reducible refine Mw.Bk.new' ?_); (first | rfl | (simp; done) | (simp; omega))) | with_reducible refine Mw.Bk.alloc ?_ _ | with_reducible refine Mw.Bk.drewN ?_ _ | with_reducible refine Mw.Bk.drew ?_ | with_reducible assumption))) hb1
        have hc1 : Below w.heap.size w w1 := bl_trans (by (repeat (first | with_reducible exact Below.refl _ _ | with_reducible refine bl_drewN ?_ _ | with_reducible refine Below.drew ?_ | with_reducible refine bl_alloc ?_ _ | with_reducible refine Below.alloc ?_ (by first | omega | (simp; done) | (simp; omega)) _ | with_reducible refine Below.setCell ?_ (by first | omega | (simp; done) | (simp; omega)) _ | with_reducible assumption))) hb1
        have hra1 := hra.old hc1
        have hrb1 := hrb.old hc1
        clear hb1
        go_wp2_with fail
        refine (great_any a A c _ hla hra1).mono ?_
        rintro e w0 ⟨rfl, rfl⟩
        go_wp2_with fail
        refine (great_any b B d _ hlb hrb1).mono ?_
        rintro e w0 ⟨rfl, rfl⟩
        go_wp2_with fail
        clear hta htb
        go_loopw [7, 8, 32] (fun x y i wr => ∃ k : Nat, k ≤ a.length ∧ i = .int .i64 k ∧ x = .int .i64 (sm a k) ∧ y = .int .i64 (sm b k) ∧ (∀ j, j < k → ds (mx (gi a j)) (mx (gi b j)) ≤ r.p) ∧ Bk wr w.heap.size 24 (rc r) ∧ Below w.heap.size w wr) (fun _ _ i _ => a.length - (intOf i).toNat)
        case atStart => exact ⟨0, by omega, rfl, rfl, rfl, fun j hj => by omega, hB1, hc1⟩
        case round =>
          clear hB1 hc1 hra1 hrb1
          obtain ⟨k, hk, rfl, rfl, rfl, hok, hB, hb⟩ := hrel
          have Hok := Lib.hid hok
          clear hok
          obtain ⟨⟨k0, k1, k2, k3⟩, -⟩ := bk4 hB
          have hz := hB.lt
          obtain ⟨s0, s1⟩ := sm_bd a k (fun j hj => T2.out j (by omega))
          obtain ⟨s2, s3⟩ := sm_bd b k (fun j hj => T4.out j (by omega))
          by_cases hlt : k < a.length
          · obtain ⟨b1, off, rfl, hbl, hcl⟩ := (hra.old hb) k hlt
            obtain ⟨b2, off', rfl, hbl', hcl'⟩ := (hrb.old hb) k (by omega)
            have g1 := T2.out k hlt
            have g2 := T4.out k (by omega)
            obtain ⟨x, y, Ex, Ey, x0, x1, y0, y1, hxy⟩ : ∃ x y : Int, Hid (mx (gi a k) = x) ∧ Hid (mx (gi b k) = y) ∧ 0 ≤ x ∧ x ≤ 200 ∧ 0 ≤ y ∧ y ≤ 200 ∧ ((0 ≤ gi a k ∧ x = gi a k ∨ gi a k < 0 ∧ x = 0) ∧ (0 ≤ gi b k ∧ y = gi b k ∨ gi b k < 0 ∧ y = 0)) := by
              refine ⟨mx (gi a k), mx (gi b k), rfl, rfl, (mx_bd _ g1).1, (mx_bd _ g1).2, (mx_bd _ g2).1, (mx_bd _ g2).2, ?_, ?_⟩ <;> (unfold mx; split <;> omega)
            by_cases hp : ds x y ≤ r.p
            · have hp' : decide (r.p < ds x y) = false := decide_eq_false (by omega)
              rcases hxy with ⟨⟨pa, rfl⟩ | ⟨pa, rfl⟩, ⟨pb, rfl⟩ | ⟨pb, rfl⟩⟩
              all_goals
                go_wp2_with fail
                go_region
                go_wp2_with fail
                have hBd : Bk wr.drew w.heap.size 24 (rc r) := hB
                have hbd : Below w.heap.size w wr.drew := hb.drew
                generalize wr.drew = wd at hBd hbd ⊢
                obtain ⟨⟨j0, j1, j2, j3⟩, -⟩ := bk4 hBd
                have hzd := hBd.lt
                refine Mm.region_ext (by kernel_rfl) (by kernel_rfl) ?_; (repeat (first | go_big_quiet_step ((go_at_call 28; exact Mm.calls_same (dist_any _ _ (by omega) (by omega) (by omega) (by omega) _))) | quiet_step ((go_at_call 28; exact Mm.calls_same (dist_any _ _ (by omega) (by omega) (by omega) (by omega) _))))); refine wpQuiet_nil ?_
                intro w5 hb5
                have hB5 := Bk.old (by (repeat (first | with_reducible assumption | ((with_reducible refine Mw.Bk.new' ?_); (first | rfl | (simp; done) | (simp; omega))) | with_reducible refine Mw.Bk.alloc ?_ _ | with_reducible refine Mw.Bk.drew ?_ | with_reducible refine Mw.Bk.drewN ?_ _ | with_reducible refine Mw.Bk.set4 (a0 := .int .u32 0) (a1 := .int .u32 0) (a2 := .int .u32 0) (a3 := .int .u32 0) ?_ | ((with_reducible refine Mw.Bk.far ?_ ?_ _); rotate_left 1; focus (first | omega | (simp; done) | (simp; omega))) | with_reducible refine Mw.Bk.old ?_ (by assumption)))) hb5
                have hc5 : Below w.heap.size w w5 := bl_trans (by (repeat (first | with_reducible exact Below.refl _ _ | with_reducible assumption | with_reducible refine bl_drewN ?_ _ | with_reducible refine Below.drew ?_ | with_reducible refine bl_alloc ?_ _ | ((with_reducible refine Below.setCell ?_ ?_ _); rotate_left 1; focus (first | omega | (simp; done) | (simp; omega))) | with_reducible refine bl_trans ?_ (by with_reducible assumption)))) hb5
                clear hb5
                go_wp2_with fail
                go_roundw
                case rel =>
                  refine ⟨k + 1, by omega, by go_num, ?_, ?_, ?_, by assumption, hc5⟩
                  · show Value.int .i64 _ = Value.int .i64 (sm a k + mx (gi a k)); rw [Ex.out]; try simp
                  · show Value.int .i64 _ = Value.int .i64 (sm b k + mx (gi b k)); rw [Ey.out]; try simp
                  · intro j hj
                    by_cases e : j = k
                    · subst e; rw [Ex.out, Ey.out]; exact hp
                    · exact Hok.out j (by omega)
                case measure => simp [intOf]; omega
            · have hp' : decide (r.p < ds x y) = true := decide_eq_true (by omega)
              have He : Hid (gd r a b = false) := gd_no (fun h => by have := h.2.2.2.2.1 k hlt; rw [Ex.out, Ey.out] at this; exact hp this)
              rcases hxy with ⟨⟨pa, rfl⟩ | ⟨pa, rfl⟩, ⟨pb, rfl⟩ | ⟨pb, rfl⟩⟩
              all_goals
                go_wp2_with fail
                go_region
                go_wp2_with fail
                have hBd : Bk wr.drew w.heap.size 24 (rc r) := hB
                have hbd : Below w.heap.size w wr.drew := hb.drew
                generalize wr.drew = wd at hBd hbd ⊢
                obtain ⟨⟨j0, j1, j2, j3⟩, -⟩ := bk4 hBd
                have hzd := hBd.lt
                refine Mm.region_ext (by kernel_rfl) (by kernel_rfl) ?_; (repeat (first | go_big_quiet_step ((go_at_call 28; exact Mm.calls_same (dist_any _ _ (by omega) (by omega) (by omega) (by omega) _))) | quiet_step ((go_at_call 28; exact Mm.calls_same (dist_any _ _ (by omega) (by omega) (by omega) (by omega) _))))); refine wpQuiet_nil ?_
                intro w5 hb5
                have hc5 : Below w.heap.size w w5 := bl_trans (by (repeat (first | with_reducible exact Below.refl _ _ | with_reducible assumption | with_reducible refine bl_drewN ?_ _ | with_reducible refine Below.drew ?_ | with_reducible refine bl_alloc ?_ _ | ((with_reducible refine Below.setCell ?_ ?_ _); rotate_left 1; focus (first | omega | (simp; done) | (simp; omega))) | with_reducible refine bl_trans ?_ (by with_reducible assumption)))) hb5
                clear hb5
                go_wp2_with fail
                go_ret
                exact ⟨ret_bool He.out.symm, hc5⟩
          · have Hk : Hid (k = a.length) := by unfold Hid; omega
            have He : Hid (gd r a b = decide (ds (sm a k) (sm b k) ≤ r.t)) := by
              unfold Hid
              rw [gd_end Hc.out Hl.out Hta.out Htb.out (fun j hj => Hok.out j (by omega)), ← Hl.out, ← Hk.out]
            go_wp2_with fail
            refine Mm.region_ext (by kernel_rfl) (by kernel_rfl) ?_; (repeat (first | go_big_quiet_step ((go_at_call 28; exact Mm.calls_same (dist_any _ _ (by omega) (by omega) (by omega) (by omega) _))) | quiet_step ((go_at_call 28; exact Mm.calls_same (dist_any _ _ (by omega) (by omega) (by omega) (by omega) _))))); refine wpQuiet_nil ?_
            intro w5 hb5
            go_wp2_with fail
            go_ret
            exact ⟨ret_bool He.out.symm, bl_trans hb hb5⟩
      · have He : Hid (gd r a b = false) := gd_no (fun h => by rw [htb] at h; exact absurd h.2.2.2.1 (by simp))
        go_enter Try.func16, Try.ntmps16
        go_wp2_with fail
        refine (check_yes r Hc.out _).mono ?_
        rintro e w1 ⟨rfl, hb1⟩
        have hc1 : Below w.heap.size w w1 := bl_trans (by (repeat (first | with_reducible exact Below.refl _ _ | with_reducible refine bl_drewN ?_ _ | with_reducible refine Below.drew ?_ | with_reducible refine bl_alloc ?_ _ | with_reducible refine Below.alloc ?_ (by first | omega | (simp; done) | (simp; omega)) _ | with_reducible refine Below.setCell ?_ (by first | omega | (simp; done) | (simp; omega)) _ | with_reducible assumption))) hb1
        clear hb1
        go_wp2_with fail
        refine (great_any a A c _ hla (hra.old hc1)).mono ?_
        rintro e w0 ⟨rfl, rfl⟩
        go_wp2_with fail
        refine (great_any b B d _ hlb (hrb.old hc1)).mono ?_
        rintro e w0 ⟨rfl, rfl⟩
        go_wp2_with fail
        go_ret
        exact ⟨ret_bool He.out.symm, hc1⟩
    · have He : Hid (gd r a b = false) := gd_no (fun h => by rw [hta] at h; exact absurd h.2.2.1 (by simp))
      go_enter Try.func16, Try.ntmps16
      go_wp2_with fail
      refine (check_yes r Hc.out _).mono ?_
      rintro e w1 ⟨rfl, hb1⟩
      have hc1 : Below w.heap.size w w1 := bl_trans (by (repeat (first | with_reducible exact Below.refl _ _ | with_reducible refine bl_drewN ?_ _ | with_reducible refine Below.drew ?_ | with_reducible refine bl_alloc ?_ _ | with_reducible refine Below.alloc ?_ (by first | omega | (simp; done) | (simp; omega)) _ | with_reducible refine Below.setCell ?_ (by first | omega | (simp; done) | (simp; omega)) _ | with_reducible assumption))) hb1
      clear hb1
      go_wp2_with fail
      refine (great_any a A c _ hla (hra.old hc1)).mono ?_
      rintro e w0 ⟨rfl, rfl⟩
      go_wp2_with fail
      go_ret
      exact ⟨ret_bool He.out.symm, hc1⟩
  · have hn : ((a.length : Int) != b.length) = true := by simp; omega
    have He : Hid (gd r a b = false) := gd_no (fun h => hl h.2.1)
    go_enter Try.func16, Try.ntmps16
    go_wp2_with fail
    refine (check_yes r Hc.out _).mono ?_
    rintro e w1 ⟨rfl, hb1⟩
    have hc1 : Below w.heap.size w w1 := bl_trans (by (repeat (first | with_reducible exact Below.refl _ _ | with_reducible refine bl_drewN ?_ _ | with_reducible refine Below.drew ?_ | with_reducible refine bl_alloc ?_ _ | with_reducible refine Below.alloc ?_ (by first | omega | (simp; done) | (simp; omega)) _ | with_reducible refine Below.setCell ?_ (by first | omega | (simp; done) | (simp; omega)) _ | with_reducible assumption))) hb1
    clear hb1
    go_wp2_with fail
    go_ret
    exact ⟨ret_bool He.out.symm, hc1⟩
end Go.Proofs.Ytpgkiiaoddhdcaa.Mo
