/- Walks: the sanity check; the statement MonitorWindow. -/
import Derived.Test.YtpgkiiaoddhdcaaMJ
import Derived.Test.YtpgkiiaoddhdcaaMF
import Derived.WalkKit
import Derived.WalkSpells
import Derived.WalkLawsBesides
import Derived.Deep.QuietTactic
import Derived.BigQuiet
import Derived.Deep.Draws
import Derived.Deep.AppendLies
import Derived.Laws.OwnMore
import Derived.Laws.BytesArg
import Derived.Lib.Hide
import Derived.Deep.LoopGhost
namespace Go.Proofs.Ytpgkiiaoddhdcaa.Mo
open Go.RowKit Go.Proofs.Ytpgkiiaoddhdcaa.Mw Go.Proofs.Ytpgkiiaoddhdcaa.Dc
set_option linter.unusedVariables false

abbrev l5 : List Bool := [true, false, true, false, true]
theorem runS5 : runS ⟨0, 0, 3, 2⟩ l5 = 3 := runS_at _ _ 3 (by decide) (by decide) (by decide)
theorem runG5 : runG ⟨0, 0, 3, 2⟩ l5 = 2 := by unfold runG; rw [endR_at _ _ 3 runS5]; decide
theorem tg_lit {l : List Int} (h : l.length ≤ 24) (h' : ∀ x ∈ l, x ≤ 200) : tg l = false := tg_no h (fun j hj => h' _ (gi_mem l j hj))
theorem gd_3 : gd ⟨1, 2, 1, 1⟩ [3, 4, 5] [4, 5, 6] = false := by
  rw [gd_end (r := ⟨1, 2, 1, 1⟩) (a := [3, 4, 5]) (b := [4, 5, 6]) (by decide) rfl (tg_lit (by decide) (by decide)) (tg_lit (by decide) (by decide)) (by decide)]
  decide
theorem gd_2 : gd ⟨1, 2, 1, 1⟩ [3, 4, 5] [4, 5, 5] = true := by
  rw [gd_end (r := ⟨1, 2, 1, 1⟩) (a := [3, 4, 5]) (b := [4, 5, 5]) (by decide) rfl (tg_lit (by decide) (by decide)) (tg_lit (by decide) (by decide)) (by decide)]
  decide
theorem run_5 (A : Option Addr) (c : Nat) (w : World) (hr : RdB w A l5) :
    Calls Try.prog 20 #[rv ⟨0, 0, 3, 2⟩, .slice A 5 c] w fun e w' => e = .returned (.tuple #[.int .i64 3, .int .i64 2, .int .i64 0]) ∧ Below w.heap.size w w' := by
  have := run_yes ⟨0, 0, 3, 2⟩ l5 A c (by decide) w (by decide) hr
  rwa [runS5, runG5] at this
theorem step_1 (w : World) : Calls Try.prog 23 #[rv ⟨0, 0, 1, 1⟩, w0, .bool false] w fun e w' => (∃ A c, e = .returned (.tuple #[.agg #[.slice A 1 c, .bool true], .int .i64 0])) ∧ Below w.heap.size w w' :=
  (step_ok ⟨0, 0, 1, 1⟩ [] none 0 false (by decide) w (RdB.nil _ _)).mono fun _ _ ⟨A, c, h1, _, _, h4⟩ => ⟨⟨A, c, h1⟩, h4⟩
theorem good_3 (A B : Option Addr) (c d : Nat) (w : World) (ha : RdI w .i64 A [3, 4, 5]) (hb : RdI w .i64 B [4, 5, 6]) :
    Calls Try.prog 16 #[rv ⟨1, 2, 1, 1⟩, .slice A 3 c, .slice B 3 d] w fun e w' => e = .returned (.bool false) ∧ Below w.heap.size w w' := by
  have := good_any ⟨1, 2, 1, 1⟩ [3, 4, 5] [4, 5, 6] A B c d w (by decide) (by decide) ha hb
  rwa [gd_3] at this
theorem good_2 (A B : Option Addr) (c d : Nat) (w : World) (ha : RdI w .i64 A [3, 4, 5]) (hb : RdI w .i64 B [4, 5, 5]) :
    Calls Try.prog 16 #[rv ⟨1, 2, 1, 1⟩, .slice A 3 c, .slice B 3 d] w fun e w' => e = .returned (.bool true) ∧ Below w.heap.size w w' := by
  have := good_any ⟨1, 2, 1, 1⟩ [3, 4, 5] [4, 5, 5] A B c d w (by decide) (by decide) ha hb
  rwa [gd_2] at this

set_option maxHeartbeats 1000000 in
theorem sane_any (w : World) :
    Calls Try.prog 9 #[] w fun e w' => e = .returned (.bool true) ∧ Below w.heap.size w w' := by
  go_enter Try.func9, Try.ntmps9
  go_wp2_with fail
  refine (run_5 _ _ _ (RdB.bk (T := 4) (Bk.new' rfl) rfl)).mono ?_
  rintro e w1 ⟨rfl, hb1⟩
  go_wp2_with fail
  refine (step_1 _).mono ?_
  rintro e w2 ⟨⟨A2, c2, rfl⟩, hb2⟩
  go_wp2_with fail
  refine (good_3 _ _ _ _ _ (by refine RdI.bk (T := 3) (cs := #[.int .i64 3, .int .i64 4, .int .i64 5]) ?_ rfl; (repeat (first | ((with_reducible refine Mw.Bk.new' ?_); (first | rfl | (simp; done) | (simp; omega))) | with_reducible refine Mw.Bk.alloc ?_ _ | with_reducible refine Mw.Bk.drewN ?_ _ | with_reducible refine Mw.Bk.drew ?_ | with_reducible assumption))) (by refine RdI.bk (T := 3) (cs := #[.int .i64 4, .int .i64 5, .int .i64 6]) ?_ rfl; (repeat (first | ((with_reducible refine Mw.Bk.new' ?_); (first | rfl | (simp; done) | (simp; omega))) | with_reducible refine Mw.Bk.alloc ?_ _ | with_reducible refine Mw.Bk.drewN ?_ _ | with_reducible refine Mw.Bk.drew ?_ | with_reducible assumption)))).mono ?_
  rintro e w3 ⟨rfl, hb3⟩
  go_wp2_with fail
  refine (good_2 _ _ _ _ _ (by refine RdI.bk (T := 3) (cs := #[.int .i64 3, .int .i64 4, .int .i64 5]) ?_ rfl; (repeat (first | ((with_reducible refine Mw.Bk.new' ?_); (first | rfl | (simp; done) | (simp; omega))) | with_reducible refine Mw.Bk.alloc ?_ _ | with_reducible refine Mw.Bk.drewN ?_ _ | with_reducible refine Mw.Bk.drew ?_ | with_reducible assumption))) (by refine RdI.bk (T := 3) (cs := #[.int .i64 4, .int .i64 5, .int .i64 5]) ?_ rfl; (repeat (first | ((with_reducible refine Mw.Bk.new' ?_); (first | rfl | (simp; done) | (simp; omega))) | with_reducible refine Mw.Bk.alloc ?_ _ | with_reducible refine Mw.Bk.drewN ?_ _ | with_reducible refine Mw.Bk.drew ?_ | with_reducible assumption)))).mono ?_
  rintro e w4 ⟨rfl, hb4⟩
  have h1 : Below w.heap.size w w1 := bl_trans (by (repeat (first | with_reducible exact Below.refl _ _ | with_reducible refine bl_drewN ?_ _ | with_reducible refine Below.drew ?_ | with_reducible refine bl_alloc ?_ _ | with_reducible refine Below.alloc ?_ (by first | omega | (simp; done) | (simp; omega)) _ | with_reducible refine Below.setCell ?_ (by first | omega | (simp; done) | (simp; omega)) _ | with_reducible assumption))) hb1
  have h2 : Below w.heap.size w w2 := bl_trans h1 hb2
  have h3 : Below w.heap.size w w3 := bl_trans (by (repeat (first | with_reducible exact Below.refl _ _ | with_reducible refine bl_drewN ?_ _ | with_reducible refine Below.drew ?_ | with_reducible refine bl_alloc ?_ _ | with_reducible refine Below.alloc ?_ (by first | omega | (simp; done) | (simp; omega)) _ | with_reducible refine Below.setCell ?_ (by first | omega | (simp; done) | (simp; omega)) _ | with_reducible assumption))) hb3
  clear hb1 hb2 hb3 h1 h2
  go_wp2_with fail
  go_ret
  exact ⟨rfl, bl_trans (by (repeat (first | with_reducible exact Below.refl _ _ | with_reducible refine bl_drewN ?_ _ | with_reducible refine Below.drew ?_ | with_reducible refine bl_alloc ?_ _ | with_reducible refine Below.alloc ?_ (by first | omega | (simp; done) | (simp; omega)) _ | with_reducible refine Below.setCell ?_ (by first | omega | (simp; done) | (simp; omega)) _ | with_reducible assumption))) hb4⟩

theorem win_cnt (r : Rl) (l : List Bool) (i lo : Nat) (hr : chk r = true) (hi : i < l.length) (hlo : lo = i + 1 - r.w.toNat) : cf (bi l) lo (i + 1 - lo) = cnt (pr r.w.toNat l (i + 1)) := by
  have := chk_bd hr
  rw [cnt_pr _ _ _ (by omega), hlo, show i + 1 - (i + 1 - r.w.toNat) = min (i + 1) r.w.toNat by omega]

set_option maxHeartbeats 2000000 in
set_option maxRecDepth 100000 in
theorem window_any (t : List Int) (A : Option Addr) (c : Nat) (l : List Bool) (B : Option Addr) (d : Nat) (w : World) (ht : t.length ≤ maxLen) (hti : ∀ n ∈ t, I64 n) (hrt : RdI w .i64 A t) (hl : l.length ≤ maxLen) (hrl : RdB w B l) :
    Calls Try.prog 5 #[.slice A t.length c, .slice B l.length d] w fun e w' => e = .returned (.bool true) ∧ Below w.heap.size w w' := by
  unfold maxLen at ht hl
  by_cases h6 : t.length ≤ 600
  · have h6' : decide (t.length ≤ 600) = true := decide_eq_true h6
    by_cases h60 : l.length ≤ 60
    · have h60' : decide (60 < (l.length : Int)) = false := decide_eq_false (by omega)
      have Hti := Lib.hid hti
      clear hti
      go_enter Try.func5, Try.ntmps5
      go_wp2_with (go_at_call 8; refine (light_any t A c _).mono ?_; rintro e w' ⟨rfl, rfl⟩)
      refine (roll_any t A c _ hrt (by omega) Hti.out).mono ?_
      rintro e w1 ⟨rfl, hd1, hb1⟩
      go_wp2_with fail
      refine (monitor_any _ _ hd1).mono ?_
      rintro e w2 ⟨r, hck, hp1, hp2, hp3, rfl, hd2, hg2⟩
      have hc2 : Below w.heap.size w w2 := bl_gb hb1 hg2 (Nat.le_refl _)
      have hrl2 := hrl.old hc2
      have hcb := chk_bd hck
      have Hck := Lib.hid hck
      clear hb1 hg2 hd1 hd2 hck hrt hrl Hti
      go_wp2_with fail
      have hB : Bk (w2.alloc (.cells (rc r) 24)) w2.heap.size 24 (rc r) := Bk.new' rfl
      have hrl3 := hrl2.alloc (.cells (rc r) 24)
      have hc3 : Below w.heap.size w (w2.alloc (.cells (rc r) 24)) := bl_alloc hc2 _
      clear hrl2 hc2
      generalize w2.alloc (.cells (rc r) 24) = w3 at hB hrl3 hc3 ⊢
      obtain ⟨⟨k0, k1, k2, k3⟩, -⟩ := bk4 hB
      have hz := hB.lt
      go_loop [6, 7] (fun x i => ∃ (k : Nat) (v : Int), k ≤ l.length ∧ i = .int .i64 k ∧ x = .int .i64 v ∧ ((v = -1 ∧ ∀ j, j < k → sus r l j = false) ∨ (0 ≤ v ∧ v ≤ 60 ∧ runS r l = v))) (fun _ i => l.length - (intOf i).toNat)
      case atStart => exact ⟨0, -1, by omega, rfl, rfl, .inl ⟨rfl, fun j hj => by omega⟩⟩
      case round =>
        obtain ⟨k, v, hk, rfl, rfl, hv⟩ := hrel
        by_cases hbody : k < l.length ∧ v = -1
        · obtain ⟨hlt, rfl⟩ := hbody
          have hok : ∀ j, j < k → sus r l j = false := by
            rcases hv with hv | hv
            · exact hv.2
            · omega
          have Hok := Lib.hid hok
          clear hok hv
          obtain ⟨lo, hlo⟩ : ∃ lo, lo = k + 1 - r.w.toNat := ⟨_, rfl⟩
          have Hcnt := Lib.hid (win_cnt r l k lo Hck.out hlt hlo)
          have hd1 : decide (k < l.length) = true := decide_eq_true (by omega)
          have htri : ((k : Int) - r.w + 1 < 0) ∨ (0 ≤ (k : Int) - r.w + 1 ∧ (k : Int) - r.w + 1 ≤ 0) ∨ (0 < (k : Int) - r.w + 1) := by omega
          have hlo2 : lo ≤ k := by omega
          have Hlo : Hid (((k : Int) - r.w + 1 < 0 → (lo : Int) = 0) ∧ ((k : Int) - r.w + 1 ≤ 0 → (lo : Int) = 0) ∧ (0 ≤ (k : Int) - r.w + 1 → (lo : Int) = (k : Int) - r.w + 1)) := by unfold Hid; omega
          clear hlo
          rcases htri with hm | ⟨hm, hm'⟩ | hm
          all_goals
            go_wp2_with fail
            go_loop [8, 9] (fun x i => ∃ m : Nat, lo + m ≤ k + 1 ∧ i = .int .i64 ((lo + m : Nat) : Int) ∧ x = .int .i64 ((cf (bi l) lo m : Nat) : Int)) (fun _ i => k + 1 - (intOf i).toNat)
            case atStart => exact ⟨0, by omega, by rw [Nat.add_zero]; first | (rw [Hlo.out.2.2 (by omega)]; done) | (rw [Hlo.out.2.1 (by omega)]; done), rfl⟩
            case round =>
              obtain ⟨m, hm2, rfl, rfl⟩ := hrel
              have hcl := cf_le (bi l) lo m
              by_cases hlt2 : lo + m ≤ k
              · obtain ⟨b, off, rfl, hbl, hc⟩ := hrl3 (lo + m) (by omega)
                cases hb : bi l (lo + m)
                · have He : Hid (cf (bi l) lo (m + 1) = cf (bi l) lo m + 1) := by unfold Hid; show cf (bi l) lo m + _ = _; rw [if_neg (by simp [hb])]
                  rw [hb] at hc
                  clear hb
                  go_wp2_with fail
                  go_round
                  case rel => exact ⟨m + 1, by omega, by go_num, by rw [He.out]; go_num⟩
                  case measure => simp [intOf]; omega
                · have He : Hid (cf (bi l) lo (m + 1) = cf (bi l) lo m) := by unfold Hid; show cf (bi l) lo m + _ = _; rw [if_pos hb]; rfl
                  rw [hb] at hc
                  clear hb
                  go_wp2_with fail
                  go_round
                  case rel => exact ⟨m + 1, by omega, by go_num, by rw [He.out]⟩
                  case measure => simp [intOf]; omega
              · have Hm : Hid (m = k + 1 - lo) := by unfold Hid; omega
                have Hsus : Hid (decide (r.f ≤ ((cf (bi l) lo m : Nat) : Int)) = sus r l k) := by unfold Hid; rw [Hm.out, Hcnt.out]; rfl
                cases hs : sus r l k
                · have hd2 : decide (r.f ≤ ((cf (bi l) lo m : Nat) : Int)) = false := Hsus.out.trans hs
                  have Hok' := Lib.hid (sus_next Hok.out hs)
                  clear hs
                  go_wp2_with fail
                  go_round
                  case rel => exact ⟨k + 1, -1, by omega, by go_num, rfl, .inl ⟨rfl, Hok'.out⟩⟩
                  case measure => simp [intOf]; omega
                · have hd2 : decide (r.f ≤ ((cf (bi l) lo m : Nat) : Int)) = true := Hsus.out.trans hs
                  have Hs := Lib.hid (runS_at r l k hlt hs Hok.out)
                  clear hs
                  go_wp2_with fail
                  go_round
                  case rel => exact ⟨k + 1, k, by omega, by go_num, rfl, .inr ⟨by omega, by omega, Hs.out⟩⟩
                  case measure => simp [intOf]; omega
        · have hs : runS r l = v ∧ (v = -1 ∨ 0 ≤ v) ∧ v ≤ 60 := by
            rcases hv with ⟨h1, h2⟩ | ⟨h1, h2, h3⟩
            · exact ⟨by rw [h1]; exact runS_none r l (fun j hj => h2 j (by omega)), .inl h1, by omega⟩
            · exact ⟨h3, .inr h1, h2⟩
          obtain ⟨hs, hv2, hv3⟩ := hs
          have Hs := Lib.hid hs
          have HRun := Lib.hid (show ∀ (W : World), RdB W B l → Calls Try.prog 20 #[rv r, .slice B l.length d] W fun e w' => e = .returned (.tuple #[.int .i64 v, .int .i64 (runG r l), .int .i64 0]) ∧ Below W.heap.size W w' from fun W h => by rw [← hs]; exact run_yes r l B d Hck.out W (by omega) h)
          have hkv : (decide (k < l.length) = false) ∨ (decide (k < l.length) = true ∧ decide (v < 0) = false) := by
            by_cases h1 : k < l.length
            · exact .inr ⟨decide_eq_true (by omega), decide_eq_false (by omega)⟩
            · exact .inl (decide_eq_false (by omega))
          clear hs hv hbody
          rcases hv2 with rfl | hv0
          · rcases hkv with h1 | ⟨h1, h2⟩
            · go_wp2_with fail
              refine (HRun.out _ hrl3).mono ?_
              rintro e w4 ⟨rfl, hb4⟩
              go_wp2_with fail
              refine (sane_any _).mono ?_
              rintro e w5 ⟨rfl, hb5⟩
              go_wp2_with fail
              go_ret
              exact ⟨rfl, bl_trans (bl_trans hc3 hb4) hb5⟩
            · simp at h2
          · obtain ⟨m, rfl⟩ := Int.eq_ofNat_of_zero_le hv0
            have hm : m < l.length ∧ bi l m = false := by
              rcases runS_cases r l with ⟨h1, _⟩ | ⟨i, h1, h2, h3, h4⟩
              · rw [Hs.out] at h1; omega
              · rw [Hs.out] at h1
                obtain rfl : m = i := by omega
                exact ⟨h2, sus_bad r l m Hck.out h2 h3 h4⟩
            obtain ⟨hm1, hm2⟩ := hm
            obtain ⟨b, off, rfl, hbl, hc⟩ := hrl3 m hm1
            rw [hm2] at hc
            clear hm2
            rcases hkv with h1 | ⟨h1, h2⟩
            all_goals
              go_wp2_with fail
              refine (HRun.out _ hrl3).mono ?_
              rintro e w4 ⟨rfl, hb4⟩
              have hc4 := (hb4.cell (p := ⟨b, off + m, none⟩) hbl).trans hc
              have hc5 := bl_trans hc3 hb4
              clear hb4
              go_wp2_with fail
              refine (sane_any _).mono ?_
              rintro e w5 ⟨rfl, hb5⟩
              go_wp2_with fail
              go_ret
              exact ⟨rfl, bl_trans hc5 hb5⟩
    · have h60' : decide (60 < (l.length : Int)) = true := decide_eq_true (by omega)
      go_enter Try.func5, Try.ntmps5
      go_wp2_with (go_at_call 8; refine (light_any t A c _).mono ?_; rintro e w' ⟨rfl, rfl⟩)
      refine (sane_any _).mono ?_
      rintro e w5 ⟨rfl, hb5⟩
      go_wp2_with fail
      go_ret
      exact ⟨rfl, hb5⟩
  · have h6' : decide (t.length ≤ 600) = false := decide_eq_false h6
    go_enter Try.func5, Try.ntmps5
    go_wp2_with (go_at_call 8; refine (light_any t A c _).mono ?_; rintro e w' ⟨rfl, rfl⟩)
    refine (sane_any _).mono ?_
    rintro e w5 ⟨rfl, hb5⟩
    go_wp2_with fail
    go_ret
    exact ⟨rfl, hb5⟩
end Go.Proofs.Ytpgkiiaoddhdcaa.Mo
