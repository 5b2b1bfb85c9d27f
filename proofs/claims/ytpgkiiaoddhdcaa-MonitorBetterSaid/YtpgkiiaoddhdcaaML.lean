/- Walks: the statement MonitorBetter. -/
import Derived.Test.YtpgkiiaoddhdcaaMK
import Derived.Test.YtpgkiiaoddhdcaaAR
import Derived.WalkKit
import Derived.WalkSpells
import Derived.WalkLawsBesides
import Derived.Deep.QuietTactic
import Derived.BigQuiet
import Derived.Deep.Draws
import Derived.Deep.AppendLies
import Derived.Laws.OwnMore
import Derived.Laws.BytesArg
import Derived.Lib.Hide
import Derived.Deep.LoopGhost
namespace Go.Proofs.Ytpgkiiaoddhdcaa.Mo
open Go.RowKit Go.Proofs.Ytpgkiiaoddhdcaa.Mw Go.Proofs.Ytpgkiiaoddhdcaa.Dc
set_option linter.unusedVariables false

theorem bi_set (l : List Bool) (m j : Nat) (h : bi l j = true) : bi (l.set m true) j = true := by
  unfold bi at h ⊢
  rw [List.getD_eq_getElem?_getD] at h ⊢
  rw [List.getElem?_set]
  split
  · split
    · rfl
    · rename_i e hm
      rw [List.getElem?_eq_none (by omega)] at h
      simp at h
  · exact h
theorem sus_mono (r : Rl) (l : List Bool) (m i : Nat) (hi : i < l.length) (h : sus r (l.set m true) i = true) : sus r l i = true := by
  have h1 : r.f ≤ (cnt (pr r.w.toNat (l.set m true) (i + 1)) : Int) := of_decide_eq_true h
  rw [cnt_pr _ _ _ (by simp; omega)] at h1
  refine decide_eq_true ?_
  rw [cnt_pr _ _ _ (by omega)]
  have := cf_mono (bi l) (bi (l.set m true)) (i + 1 - r.w.toNat) (min (i + 1) r.w.toNat) (fun j _ hj => bi_set l m _ hj)
  omega
theorem better (r : Rl) (l : List Bool) (m : Nat) : (runS r l = -1 → runS r (l.set m true) = -1) ∧ (runS r (l.set m true) ≠ -1 → runS r l ≤ runS r (l.set m true)) := by
  have hlen : (l.set m true).length = l.length := by simp
  constructor
  · intro h
    rcases runS_cases r l with ⟨_, h1⟩ | ⟨i, h1, _⟩
    · refine runS_none _ _ (fun j hj => ?_)
      rw [hlen] at hj
      cases hs : sus r (l.set m true) j
      · rfl
      · have := sus_mono r l m j hj hs
        rw [h1 j hj] at this; cases this
    · omega
  · intro h
    rcases runS_cases r (l.set m true) with ⟨h1, _⟩ | ⟨i, h1, h2, h3, _⟩
    · exact absurd h1 h
    · rw [hlen] at h2
      have h4 := sus_mono r l m i h2 h3
      rcases runS_cases r l with ⟨h5, h6⟩ | ⟨j, h5, h6, h7, h8⟩
      · rw [h6 i h2] at h4; cases h4
      · rw [h1, h5]
        rcases Nat.lt_or_ge i j with hc | hc
        · rw [h8 i hc] at h4; cases h4
        · omega
theorem lt0_ge (l : List Bool) : ∀ n i, i < n → bi l i = true → (i : Int) ≤ lt0 l n
  | 0, i, h, _ => by omega
  | n + 1, i, h, hb => by
    unfold lt0
    by_cases e : i = n
    · subst e; rw [if_pos hb]; omega
    · have := lt0_ge l n i (by omega) hb
      split <;> omega
theorem lt0_cases (l : List Bool) : ∀ n, lt0 l n = -1 ∨ ∃ j : Nat, j < n ∧ lt0 l n = j ∧ bi l j = true
  | 0 => .inl rfl
  | n + 1 => by
    unfold lt0
    split
    · exact .inr ⟨n, by omega, rfl, by assumption⟩
    · rcases lt0_cases l n with h | ⟨j, h1, h2, h3⟩
      · exact .inl h
      · exact .inr ⟨j, by omega, h2, h3⟩
theorem endR_le (r : Rl) (l : List Bool) : endR r l ≤ l.length := by
  rcases runS_cases r l with ⟨h, _⟩ | ⟨i, h, h1, _⟩
  · rw [endR_none r l h]; omega
  · rw [endR_at r l i h]; omega
theorem map_set_bool (l : List Bool) (m : Nat) (b : Bool) : (l.map Value.bool).set m (.bool b) = (l.set m b).map Value.bool := by
  rw [List.map_set]

set_option maxHeartbeats 2000000 in
set_option maxRecDepth 100000 in
theorem better_any (t : List Int) (A : Option Addr) (c : Nat) (l : List Bool) (B : Option Addr) (d : Nat) (at0 : Int) (w : World) (ht : t.length ≤ maxLen) (hti : ∀ n ∈ t, I64 n) (hrt : RdI w .i64 A t) (hl : l.length ≤ maxLen) (hrl : RdB w B l) (hat : 0 ≤ at0 ∧ at0 ≤ 255) :
    Calls Try.prog 4 #[.slice A t.length c, .slice B l.length d, .int .u8 at0] w fun e w' => e = .returned (.bool true) ∧ Below w.heap.size w w' := by
  unfold maxLen at ht hl
  obtain ⟨ha0, ha1⟩ := hat
  obtain ⟨n, rfl⟩ := Int.eq_ofNat_of_zero_le ha0
  by_cases h6 : t.length ≤ 600
  · have h6' : decide (t.length ≤ 600) = true := decide_eq_true h6
    by_cases h60 : l.length ≤ 60 ∧ 0 < l.length
    · obtain ⟨h60, hpos⟩ := h60
      have h60' : decide (60 < (l.length : Int)) = false := decide_eq_false (by omega)
      have h00' : ((l.length : Int) == 0) = false := beq_eq_false_iff_ne.2 (by omega)
      have Hti := Lib.hid hti
      obtain ⟨i0, hi, hz0, hz1, hz2⟩ := info_parts infoBool
      clear hti
      go_enter Try.func4, Try.ntmps4
      go_wp2_with (go_at_call 8; refine (light_any t A c _).mono ?_; rintro e w' ⟨rfl, rfl⟩)
      refine (roll_any t A c _ hrt (by omega) Hti.out).mono ?_
      rintro e w1 ⟨rfl, hd1, hb1⟩
      go_wp2_with fail
      refine (monitor_any _ _ hd1).mono ?_
      rintro e w2 ⟨r, hck, hp1, hp2, hp3, rfl, hd2, hg2⟩
      have hc2 : Below w.heap.size w w2 := bl_gb hb1 hg2 (Nat.le_refl _)
      have hrl2 := hrl.old hc2
      have hcb := chk_bd hck
      have Hck := Lib.hid hck
      clear hb1 hg2 hd1 hd2 hck hrt hrl Hti
      have hrl3 := hrl2.alloc (.cells (rc r) 24)
      have hB3 : Bk (w2.alloc (.cells (rc r) 24)) w2.heap.size 24 (rc r) := Bk.new' rfl
      have hc3 : Below w.heap.size w (w2.alloc (.cells (rc r) 24)) := bl_alloc hc2 _
      obtain ⟨b0, o0, rfl, hbl0, -⟩ := hrl2 0 hpos
      have hnews := hrl3.news
      obtain ⟨L, hL⟩ : ∃ L, L = l.map Value.bool := ⟨_, rfl⟩
      rw [← hL] at hnews
      have hLl : L.length = l.length * 1 := by rw [hL]; simp
      have hL1 : ∀ u ∈ L, u.oneCell' = true := by rw [hL]; exact ones_bool l
      have HL := Lib.hid hL
      clear hL hrl2
      go_wp2_with (at_builtin; refine wpList_append_own _ rfl (.const (.slice none 0 0)) (.tmp 34) 25 rfl (w2.heap.size + 1) 4 i0 (.bool false) 1 1 Try.underlying25 hi hz0 hz1 hz2 rfl (by decide) (.slice none 0 0) 0 [] rfl (World.ownsRow_nil _ _ _ _) ⟨b0, o0, none⟩ l.length d L rfl hLl hnews hL1 ?c3 ?c4 ?c5 ?_)
      case c3 => simp only [maxLen]; omega
      case c4 => omega
      case c5 => simp
      intro v4 w4 hown' hgrow _
      have hown4 : w4.ownsRow (w2.heap.size + 1) 4 1 v4 l.length (l.map Value.bool) := by rw [← HL.out]; simpa using hown'
      have hb4 : Below (w2.alloc (.cells (rc r) 24)).heap.size (w2.alloc (.cells (rc r) 24)) w4 := ⟨hgrow.os, hgrow.tape, hgrow.output, hgrow.size, fun i hi => hgrow.block i hi (by simp [Value.ownBlock])⟩
      have hB4 := hB3.old hb4
      have hrl4 := hrl3.old hb4
      have hc4 := bl_trans hc3 hb4
      have hs4 : w2.heap.size + 1 ≤ w4.heap.size := by have := hb4.size; simpa using this
      clear hb4 hown' hgrow hnews hB3 hrl3 hc3 hLl hL1
      obtain ⟨g, cap, rfl, hgb, hgl⟩ := hown4.form hpos
      have hcap : l.length ≤ cap := by
        rcases hown4.2 with ⟨h, _⟩ | ⟨g', cap', cur, h, _, _, hnc, _⟩
        · cases h
        · injection h with _ _ h; subst h; exact hnc
      have hmn : n % l.length < l.length := Nat.mod_lt _ hpos
      have hcw := hown4.cellAt (n % l.length) (by omega)
      rw [List.getElem?_map, bi_lt l _ hmn] at hcw
      have hfw := hown4.frozenAt (n % l.length)
      obtain ⟨hown5, hg5⟩ := hown4.stored (n % l.length) (.bool true)
      rw [map_set_bool] at hown5
      have hq1 : (n : Int) % l.length < l.length := Int.emod_lt_of_pos _ (by omega)
      have hq0 : (0 : Int) ≤ (n : Int) % l.length := Int.emod_nonneg _ (by omega)
      obtain ⟨M, hM⟩ : ∃ M, M = l.set (n % l.length) true := ⟨_, rfl⟩
      have hMl : M.length = l.length := by rw [hM]; simp
      rw [← hM] at hown5
      have hbt := better r l (n % l.length)
      rw [← hM] at hbt
      have hrM : RdB (w4.setCell ⟨g, n % l.length, none⟩ (.bool true)) (some ⟨g, 0, none⟩) M := RdB.own hown5
      have hrl5 := hrl4.grown hg5 (Away.some (by have := hc4.size; have := hB4.lt; simp only; intro e; have : b0 < w2.heap.size := hbl0; omega))
      have hB5 := hB4.grown hg5 (by simp; omega)
      have hc5 : Below w.heap.size w (w4.setCell ⟨g, n % l.length, none⟩ (.bool true)) := hc4.setCell (by have := hc2.size; simp; omega) _
      have Hbt := Lib.hid hbt
      have HMl := Lib.hid hMl
      obtain ⟨⟨k0, k1, k2, k3⟩, -⟩ := bk4 hB4
      have hne : g ≠ w2.heap.size := by omega
      clear hM hMl hbt hown4 hown5 hg5 hB4 hrl4
      go_wp2_with fail
      refine (run_yes r l (some ⟨b0, o0, none⟩) d Hck.out _ (by omega) hrl5).mono ?_
      rintro e w6 ⟨rfl, hb6⟩
      have hB6 := hB5.old hb6
      have hrl6 := hrl5.old hb6
      have hrM6 := hrM.old hb6
      have hc6 := bl_trans hc5 hb6
      clear hb6 hB5 hrl5 hrM hc5 k0 k1 k2 k3 hcw hfw hc4
      obtain ⟨⟨k0, k1, k2, k3⟩, -⟩ := bk4 hB6
      go_wp2_with fail
      have hrun2 := run_yes r M (some ⟨g, 0, none⟩) cap Hck.out w6 (by rw [HMl.out]; omega) hrM6
      rw [HMl.out] at hrun2
      refine hrun2.mono ?_
      clear hrun2
      rintro e w7 ⟨rfl, hb7⟩
      have hrl7 := hrl6.old hb7
      have hc7 := bl_trans hc6 hb7
      clear hb7 hB6 hrl6 hrM6 hc6 k0 k1 k2 k3
      obtain ⟨a, ha⟩ : ∃ a, a = runS r l := ⟨_, rfl⟩
      obtain ⟨b, hb⟩ : ∃ b, b = runS r M := ⟨_, rfl⟩
      obtain ⟨q, hq⟩ : ∃ q, q = runG r l := ⟨_, rfl⟩
      obtain ⟨E, hE⟩ : ∃ E, E = endR r l := ⟨_, rfl⟩
      have hEl := endR_le r l
      rw [← hE] at hEl
      have hqE : q = lt0 l E := by rw [hq, hE]; rfl
      have haE : (a = -1 ∧ E = l.length) ∨ (a = E ∧ a ≠ -1) := by
        rcases runS_cases r l with ⟨h1, _⟩ | ⟨i, h1, h2, _⟩
        · exact .inl ⟨ha.trans h1, hE.trans (endR_none r l h1)⟩
        · exact .inr ⟨by rw [ha, hE, endR_at r l i h1, h1], by rw [ha, h1]; omega⟩
      have hab := Hbt.out
      rw [← ha, ← hb] at hab
      have hbb : b = -1 ∨ 0 ≤ b := by
        rcases runS_cases r M with ⟨h1, _⟩ | ⟨i, h1, _⟩
        · exact .inl (hb.trans h1)
        · exact .inr (by rw [hb, h1]; omega)
      rw [← ha, ← hb, ← hq]
      have HqE := Lib.hid hqE
      have hqb := lt0_bd l E
      rw [← hqE] at hqb
      clear ha hb hq hE hqE Hbt
      have hsplit : (a = -1 ∧ E = l.length ∧ b = -1) ∨ (0 ≤ a ∧ a = E ∧ b = -1) ∨ (0 ≤ a ∧ a = E ∧ 0 ≤ b ∧ a ≤ b) := by
        rcases haE with ⟨h1, h2⟩ | ⟨h1, h2⟩
        · exact .inl ⟨h1, h2, hab.1 h1⟩
        · rcases hbb with h3 | h3
          · exact .inr (.inl ⟨by omega, h1, h3⟩)
          · exact .inr (.inr ⟨by omega, h1, h3, hab.2 (by omega)⟩)
      clear hab haE hbb
      rcases hsplit with ⟨rfl, hEe, rfl⟩ | ⟨h1, h2, rfl⟩ | ⟨h1, h2, h3, h4⟩
      · subst hEe
        go_wp2_with fail
        go_loop [16] (fun i => ∃ k : Nat, k ≤ l.length ∧ i = .int .i64 k) (fun i => l.length - (intOf i).toNat)
        case atStart => exact ⟨0, by omega, rfl⟩
        case round =>
          obtain ⟨k, hk, rfl⟩ := hrel
          by_cases hlt : k < l.length
          · obtain ⟨b1, o1, e1, hbl, hc⟩ := hrl7 k (by omega)
            cases e1
            cases hbk : bi l k
            · rw [hbk] at hc
              clear hbk
              go_wp2_with fail
              go_round
              case rel => exact ⟨k + 1, by omega, by go_num⟩
              case measure => simp [intOf]; omega
            · have hge : (k : Int) ≤ q := by rw [HqE.out]; exact lt0_ge l _ k hlt hbk
              have hgd : decide (q < (k : Int)) = false := decide_eq_false (by omega)
              rw [hbk] at hc
              clear hbk
              go_wp2_with fail
              go_round
              case rel => exact ⟨k + 1, by omega, by go_num⟩
              case measure => simp [intOf]; omega
          · have hcs := lt0_cases l l.length
            rw [← HqE.out] at hcs
            rcases hcs with rfl | ⟨j, hj, rfl, hbj⟩
            · go_wp2_with fail
              refine (sane_any _).mono ?_
              rintro e w8 ⟨rfl, hb8⟩
              go_wp2_with fail
              go_ret
              exact ⟨rfl, bl_trans hc7 hb8⟩
            · obtain ⟨b1, o1, e1, hbl, hc⟩ := hrl7 j (by omega)
              cases e1
              rw [hbj] at hc
              clear hbj
              have hj1 : ((j : Int) == -1) = false := beq_eq_false_iff_ne.2 (by omega)
              have hj2 : decide (j < l.length) = true := decide_eq_true hj
              go_wp2_with fail
              refine (sane_any _).mono ?_
              rintro e w8 ⟨rfl, hb8⟩
              go_wp2_with fail
              go_ret
              exact ⟨rfl, bl_trans hc7 hb8⟩
      · subst h2
        have n1 : ((E : Int) == -1) = false := beq_eq_false_iff_ne.2 (by omega)
        have n2 : ((E : Int) != -1) = true := by simp only [bne, n1]; rfl
        go_wp2_with fail
        go_loop [16] (fun i => ∃ k : Nat, k ≤ E ∧ i = .int .i64 k) (fun i => E - (intOf i).toNat)
        case atStart => exact ⟨0, by omega, rfl⟩
        case round =>
          obtain ⟨k, hk, rfl⟩ := hrel
          by_cases hlt : k < E
          · obtain ⟨b1, o1, e1, hbl, hc⟩ := hrl7 k (by omega)
            cases e1
            cases hbk : bi l k
            · rw [hbk] at hc
              clear hbk
              go_wp2_with fail
              go_round
              case rel => exact ⟨k + 1, by omega, by go_num⟩
              case measure => simp [intOf]; omega
            · have hge : (k : Int) ≤ q := by rw [HqE.out]; exact lt0_ge l _ k hlt hbk
              have hgd : decide (q < (k : Int)) = false := decide_eq_false (by omega)
              rw [hbk] at hc
              clear hbk
              go_wp2_with fail
              go_round
              case rel => exact ⟨k + 1, by omega, by go_num⟩
              case measure => simp [intOf]; omega
          · have hcs := lt0_cases l E
            rw [← HqE.out] at hcs
            rcases hcs with rfl | ⟨j, hj, rfl, hbj⟩
            · go_wp2_with fail
              refine (sane_any _).mono ?_
              rintro e w8 ⟨rfl, hb8⟩
              go_wp2_with fail
              go_ret
              exact ⟨rfl, bl_trans hc7 hb8⟩
            · obtain ⟨b1, o1, e1, hbl, hc⟩ := hrl7 j (by omega)
              cases e1
              rw [hbj] at hc
              clear hbj
              have hj1 : ((j : Int) == -1) = false := beq_eq_false_iff_ne.2 (by omega)
              have hj2 : decide (j < E) = true := decide_eq_true hj
              go_wp2_with fail
              refine (sane_any _).mono ?_
              rintro e w8 ⟨rfl, hb8⟩
              go_wp2_with fail
              go_ret
              exact ⟨rfl, bl_trans hc7 hb8⟩
      · subst h2
        have n1 : ((E : Int) == -1) = false := beq_eq_false_iff_ne.2 (by omega)
        have n2 : ((E : Int) != -1) = true := by simp only [bne, n1]; rfl
        have n3 : (b == -1) = false := beq_eq_false_iff_ne.2 (by omega)
        have n4 : (b != -1) = true := by simp only [bne, n3]; rfl
        have n5 : decide (b < (E : Int)) = false := decide_eq_false (by omega)
        go_wp2_with fail
        go_loop [16] (fun i => ∃ k : Nat, k ≤ E ∧ i = .int .i64 k) (fun i => E - (intOf i).toNat)
        case atStart => exact ⟨0, by omega, rfl⟩
        case round =>
          obtain ⟨k, hk, rfl⟩ := hrel
          by_cases hlt : k < E
          · obtain ⟨b1, o1, e1, hbl, hc⟩ := hrl7 k (by omega)
            cases e1
            cases hbk : bi l k
            · rw [hbk] at hc
              clear hbk
              go_wp2_with fail
              go_round
              case rel => exact ⟨k + 1, by omega, by go_num⟩
              case measure => simp [intOf]; omega
            · have hge : (k : Int) ≤ q := by rw [HqE.out]; exact lt0_ge l _ k hlt hbk
              have hgd : decide (q < (k : Int)) = false := decide_eq_false (by omega)
              rw [hbk] at hc
              clear hbk
              go_wp2_with fail
              go_round
              case rel => exact ⟨k + 1, by omega, by go_num⟩
              case measure => simp [intOf]; omega
          · have hcs := lt0_cases l E
            rw [← HqE.out] at hcs
            rcases hcs with rfl | ⟨j, hj, rfl, hbj⟩
            · go_wp2_with fail
              refine (sane_any _).mono ?_
              rintro e w8 ⟨rfl, hb8⟩
              go_wp2_with fail
              go_ret
              exact ⟨rfl, bl_trans hc7 hb8⟩
            · obtain ⟨b1, o1, e1, hbl, hc⟩ := hrl7 j (by omega)
              cases e1
              rw [hbj] at hc
              clear hbj
              have hj1 : ((j : Int) == -1) = false := beq_eq_false_iff_ne.2 (by omega)
              have hj2 : decide (j < E) = true := decide_eq_true hj
              go_wp2_with fail
              refine (sane_any _).mono ?_
              rintro e w8 ⟨rfl, hb8⟩
              go_wp2_with fail
              go_ret
              exact ⟨rfl, bl_trans hc7 hb8⟩
    · have hor : decide (60 < (l.length : Int)) = true ∨ (decide (60 < (l.length : Int)) = false ∧ ((l.length : Int) == 0) = true) := by
        by_cases h1 : l.length ≤ 60
        · exact .inr ⟨decide_eq_false (by omega), by simp; cases l with | nil => rfl | cons x y => simp at h60; simp at h1; omega⟩
        · exact .inl (decide_eq_true (by omega))
      rcases hor with h1 | ⟨h1, h2⟩
      all_goals
        go_enter Try.func4, Try.ntmps4
        go_wp2_with (go_at_call 8; refine (light_any t A c _).mono ?_; rintro e w' ⟨rfl, rfl⟩)
        refine (sane_any _).mono ?_
        rintro e w5 ⟨rfl, hb5⟩
        go_wp2_with fail
        go_ret
        exact ⟨rfl, hb5⟩
  · have h6' : decide (t.length ≤ 600) = false := decide_eq_false h6
    go_enter Try.func4, Try.ntmps4
    go_wp2_with (go_at_call 8; refine (light_any t A c _).mono ?_; rintro e w' ⟨rfl, rfl⟩)
    refine (sane_any _).mono ?_
    rintro e w5 ⟨rfl, hb5⟩
    go_wp2_with fail
    go_ret
    exact ⟨rfl, hb5⟩
end Go.Proofs.Ytpgkiiaoddhdcaa.Mo
