/- Walks: Text and Parse of the reference. -/
import Derived.Test.YtoiipifoehfcdaaDJ
import Derived.WalkKit
import Derived.WalkSpells
import Derived.WalkLawsBesides
import Derived.Deep.QuietTactic
import Derived.BigQuiet
import Derived.Deep.Draws
import Derived.Deep.AppendLies
import Derived.Laws.OwnMore
import Derived.Laws.BytesArg
import Derived.Lib.Hide
import Derived.Deep.LoopGhost
namespace Go.Proofs.Ytoiipifoehfcdaa.Dg
open Go.RowKit
set_option linter.unusedVariables false

theorem blk_wrd {w : World} {g : Nat} {T : TypeId} {s : St} (h : Mw.Bk w g T #[.int .u32 s.1, .int .u32 s.2.1, .int .u32 s.2.2.1, .int .u32 s.2.2.2]) (k : Nat) (hk : k < 4) : w.cell? ⟨g, k, none⟩ = some (.int .u32 (wrd s k)) := by
  have : k = 0 ∨ k = 1 ∨ k = 2 ∨ k = 3 := by omega
  rcases this with e | e | e | e <;> subst e <;> exact h.cell _
theorem hexd_lo (n : Int) (h : n < 10) : hexd n = 48 + n := if_pos h
theorem hexd_hi (n : Int) (h : ¬ n < 10) : hexd n = 97 + n - 10 := by unfold hexd; rw [if_neg h]; omega

set_option maxHeartbeats 400000 in
theorem rtext_any (s : St) (w : World) :
    Calls Try.prog 22 #[dv s] w fun e w' => e = .returned (.string (strOfNums (tx s 32))) ∧ Below w.heap.size w w' := by
  obtain ⟨i0, hi, hz0, hz1, hz2⟩ := info_parts info8
  go_enter Try.func22, Try.ntmps22
  go_wp2_with fail
  go_loopw [3, 4] (fun v j wr => ∃ k : Nat, k ≤ 4 ∧ j = .int .i64 k ∧ wr.ownsRow (w.heap.size + 1) 5 1 v (8 * k) ((tx s (8 * k)).map (Value.int .u8)) ∧ Mw.Bk wr w.heap.size 24 #[.int .u32 s.1, .int .u32 s.2.1, .int .u32 s.2.2.1, .int .u32 s.2.2.2] ∧ Below w.heap.size w wr) (fun _ j _ => 4 - (intOf j).toNat)
  case atStart => exact ⟨0, by omega, rfl, World.ownsRow_nil _ _ _ _, by (repeat (first | (refine Mw.Bk.new' ?_; (first | rfl | (simp; done) | (simp; omega))) | refine Mw.Bk.alloc ?_ _ | refine Mw.Bk.drewN ?_ _ | refine Mw.Bk.drew ?_ | with_reducible assumption)), by (repeat (first | with_reducible exact Below.refl _ _ | with_reducible refine bl_drewN ?_ _ | with_reducible refine Below.drew ?_ | with_reducible refine bl_alloc ?_ _ | with_reducible refine Below.alloc ?_ (by first | omega | (simp; done) | (simp; omega)) _ | with_reducible refine Below.setCell ?_ (by first | omega | (simp; done) | (simp; omega)) _ | with_reducible assumption))⟩
  case round =>
    obtain ⟨k, hk, rfl, hown, hB, hb⟩ := hrel
    by_cases hlt : k < 4
    · have hbk : decide ((k : Int) < 4) = true := decide_eq_true (by omega)
      go_wp2_with fail
      obtain ⟨wo, rfl⟩ : ∃ wo : World, wo = wr := ⟨_, rfl⟩
      go_loopw [3, 5] (fun v j wr => ∃ m : Nat, m ≤ 8 ∧ j = .int .i64 (28 - 4 * (m : Int)) ∧ wr.ownsRow (w.heap.size + 1) 5 1 v (8 * k + m) ((tx s (8 * k + m)).map (Value.int .u8)) ∧ Mw.Bk wr w.heap.size 24 #[.int .u32 s.1, .int .u32 s.2.1, .int .u32 s.2.2.1, .int .u32 s.2.2.2] ∧ Below w.heap.size w wr) (fun _ j _ => (intOf j + 4).toNat)
      case atStart => exact ⟨0, by omega, rfl, hown, hB, hb⟩
      case round =>
        clear hown hb hB
        obtain ⟨m, hm, rfl, hown, hB, hb⟩ := hrel
        have hz := hB.lt
        by_cases hmt : m < 8
        · obtain ⟨hn0, hn1⟩ := and15 (wrd s k / 2 ^ (28 - 4 * m))
          have Hd := Lib.hid (dgt_at s k m hmt)
          have hcw := blk_wrd hB k hlt
          have Hn : Hid (nib (wrd s k) (7 - m) = bits .and .u32 (wrd s k / 2 ^ (28 - 4 * m)) 15) := by
            unfold Hid nib; rw [show 4 * (7 - m) = 28 - 4 * m by omega]
          have hs0 : (0 : Int) ≤ 28 - 4 * (m : Int) := by omega
          by_cases hq : bits .and .u32 (wrd s k / 2 ^ (28 - 4 * m)) 15 < 10
          · have Hx := Lib.hid (hexd_lo _ hq)
            go_wp2_with (at_builtin; refine wpList_append_own _ rfl _ _ 43 rfl (w.heap.size + 1) 5 i0 (.int .u8 0) 1 1 Try.underlying43 hi hz0 hz1 hz2 rfl (by decide) _ _ _ rfl (hown.alloc _) ⟨wr.heap.size, 0, none⟩ 1 1 [_] rfl rfl (cell_one_new _ _ _) ?c2 ?c3 ?c4 ?c5 ?_)
            case c2 => simp [Value.oneCell']
            case c3 => simp only [maxLen]; omega
            case c4 => omega
            case c5 => first | omega | (simp; omega)
            intro v' w1 hown' hgrow _
            have hb1 : Below w.heap.size w w1 := (hb.alloc hb.size _).grown hgrow (by have := hb.size; simp; omega) (fun j hj => by have := (hown.lt j hj).1; omega)
            have hB1 := (hB.alloc _).grown hgrow (fun e => by have := (hown.lt _ e.symm).1; omega)
            have hown1 : w1.ownsRow (w.heap.size + 1) 5 1 v' (8 * k + (m + 1)) ((tx s (8 * k + (m + 1))).map (Value.int .u8)) := by
              rw [show 8 * k + (m + 1) = 8 * k + m + 1 by omega, tx_succ, List.map_append, Hd.out, Hn.out, Hx.out]
              exact hown'
            clear hown' hgrow hown hb hB
            go_wp2_with fail
            go_roundw
            case rel => exact ⟨m + 1, by omega, by go_num, hown1, hB1, hb1⟩
            case measure => simp [intOf]; omega
          · have Hx := Lib.hid (hexd_hi _ hq)
            go_wp2_with (at_builtin; refine wpList_append_own _ rfl _ _ 43 rfl (w.heap.size + 1) 5 i0 (.int .u8 0) 1 1 Try.underlying43 hi hz0 hz1 hz2 rfl (by decide) _ _ _ rfl (hown.alloc _) ⟨wr.heap.size, 0, none⟩ 1 1 [_] rfl rfl (cell_one_new _ _ _) ?c2 ?c3 ?c4 ?c5 ?_)
            case c2 => simp [Value.oneCell']
            case c3 => simp only [maxLen]; omega
            case c4 => omega
            case c5 => first | omega | (simp; omega)
            intro v' w1 hown' hgrow _
            have hb1 : Below w.heap.size w w1 := (hb.alloc hb.size _).grown hgrow (by have := hb.size; simp; omega) (fun j hj => by have := (hown.lt j hj).1; omega)
            have hB1 := (hB.alloc _).grown hgrow (fun e => by have := (hown.lt _ e.symm).1; omega)
            have hown1 : w1.ownsRow (w.heap.size + 1) 5 1 v' (8 * k + (m + 1)) ((tx s (8 * k + (m + 1))).map (Value.int .u8)) := by
              rw [show 8 * k + (m + 1) = 8 * k + m + 1 by omega, tx_succ, List.map_append, Hd.out, Hn.out, Hx.out]
              exact hown'
            clear hown' hgrow hown hb hB
            go_wp2_with fail
            go_roundw
            case rel => exact ⟨m + 1, by omega, by go_num, hown1, hB1, hb1⟩
            case measure => simp [intOf]; omega
        · obtain rfl : m = 8 := by omega
          go_wp2_with fail
          go_roundw
          case rel => exact ⟨k + 1, by omega, by go_num, hown, hB, hb⟩
          case measure => simp [intOf]; omega
    · obtain rfl : k = 4 := by omega
      obtain ⟨g, cap, hv, _, hlt'⟩ := hown.form (by omega)
      have hcv := run_convert_bytes_arg (P := Try.prog) wr 43 5 Try.underlying43 Try.underlying5 g 0 32 cap (tx s 32) (tx_len s 32) (fun i hi => by
        subst hv
        rw [Nat.zero_add, hown.cellAt i (by omega), List.getElem?_map, List.getD_eq_getElem?_getD, List.getElem?_eq_getElem (by rw [tx_len]; omega)]
        rfl) 9 Try.underlying9
      rw [hv]
      clear hown hv
      go_wp2_with fail
      go_ret
      exact ⟨rfl, hb⟩

theorem hexv_lo (c : Int) (h : 48 ≤ c) (h' : c ≤ 57) : hexv c = c - 48 := if_pos ⟨h, h'⟩
theorem hexv_hi (c : Int) (h : 97 ≤ c) (h' : c ≤ 102) : hexv c = c - 97 + 10 := by unfold hexv; rw [if_neg (by omega), if_pos ⟨h, h'⟩]; omega

set_option maxHeartbeats 2000000 in
theorem rparse_any (s : ByteArray) (_hs : s.size ≤ maxLen) (w : World) :
    Calls Try.prog 12 #[.string s] w fun e w' => (∃ v, e = .returned v ∧ pout s v) ∧ Below w.heap.size w w' := by
  unfold maxLen at _hs
  by_cases hl : s.size = 32
  · have hl1 : s.size ≤ 32 := by omega
    have hl2 : 32 ≤ s.size := by omega
    have hl3 : ((s.size : Int) != 32) = false := by simp [hl]
    have Hl := Lib.hid hl
    clear hl
    go_enter Try.func12, Try.ntmps12
    go_wp2_with fail
    go_loopw [5] (fun i wr => ∃ k : Nat, k ≤ 32 ∧ i = .int .i64 k ∧ (∀ j, j < k → hexok (byt s j) = true) ∧ wr = (w.alloc (.cells #[.int .u32 0, .int .u32 0, .int .u32 0, .int .u32 0] 24)).alloc (.cells #[.int .u32 (pst s k).1, .int .u32 (pst s k).2.1, .int .u32 (pst s k).2.2.1, .int .u32 (pst s k).2.2.2] 24)) (fun i _ => 32 - (intOf i).toNat)
    case atStart => exact ⟨0, by omega, rfl, fun j hj => by omega, rfl⟩
    case round =>
      obtain ⟨k, hk, rfl, hok, rfl⟩ := hrel
      have Hok := Lib.hid hok
      clear hok
      by_cases hlt : k < 32
      · have Hby := Lib.hid (byt_at s k (by omega))
        have hlt' : k < s.size := by omega
        have hc0 : (0 : Int) ≤ ↑s[k].toNat := by omega
        have hc1 : (↑s[k].toNat : Int) ≤ 255 := by have := s[k].toNat_lt; omega
        have h8 : (k : Int) / 8 = 0 ∨ (k : Int) / 8 = 1 ∨ (k : Int) / 8 = 2 ∨ (k : Int) / 8 = 3 := by omega
        have h9 : (48 ≤ (s[k].toNat : Int) ∧ (s[k].toNat : Int) ≤ 57) ∨ (97 ≤ (s[k].toNat : Int) ∧ (s[k].toNat : Int) ≤ 102) ∨ ¬ ((48 ≤ (s[k].toNat : Int) ∧ (s[k].toNat : Int) ≤ 57) ∨ (97 ≤ (s[k].toNat : Int) ∧ (s[k].toNat : Int) ≤ 102)) := by omega
        rcases h9 with ⟨g1, g2⟩ | ⟨g1, g2⟩ | g1
        · have Hx : Hid (hexok ↑s[k].toNat = true) := decide_eq_true (.inl ⟨g1, g2⟩)
          have Hv := Lib.hid (hexv_lo _ g1 g2)
          rcases h8 with h8 | h8 | h8 | h8
          all_goals
            go_wp2_with fail
            go_roundw
            case rel =>
              refine ⟨k + 1, by omega, by go_num, fun j hj => ?_, ?_⟩
              · by_cases hjk : j = k
                · subst hjk; rw [Hby.out]; exact Hx.out
                · exact Hok.out j (by omega)
              · first
                | simp [pst, Hby.out, Hv.out, shl4, show k / 8 = 0 by omega]
                | simp [pst, Hby.out, Hv.out, shl4, show k / 8 = 1 by omega]
                | simp [pst, Hby.out, Hv.out, shl4, show k / 8 = 2 by omega]
                | simp [pst, Hby.out, Hv.out, shl4, show k / 8 = 3 by omega]
            case measure => simp [intOf]; omega
        · have Hx : Hid (hexok ↑s[k].toNat = true) := decide_eq_true (.inr ⟨g1, g2⟩)
          have Hv := Lib.hid (hexv_hi _ g1 g2)
          rcases h8 with h8 | h8 | h8 | h8
          all_goals
            go_wp2_with fail
            go_roundw
            case rel =>
              refine ⟨k + 1, by omega, by go_num, fun j hj => ?_, ?_⟩
              · by_cases hjk : j = k
                · subst hjk; rw [Hby.out]; exact Hx.out
                · exact Hok.out j (by omega)
              · first
                | simp [pst, Hby.out, Hv.out, shl4, show k / 8 = 0 by omega]
                | simp [pst, Hby.out, Hv.out, shl4, show k / 8 = 1 by omega]
                | simp [pst, Hby.out, Hv.out, shl4, show k / 8 = 2 by omega]
                | simp [pst, Hby.out, Hv.out, shl4, show k / 8 = 3 by omega]
            case measure => simp [intOf]; omega
        · have Hno : Hid (¬ pok s) := fun h => by
            have := decide_eq_true_iff.1 (h.2 k hlt)
            rw [Hby.out] at this
            exact g1 this
          clear h8
          go_wp2_with fail
          all_goals (first | (exfalso; omega) | (refine bodyPost_ret (v := .tuple #[dv (0, 0, 0, 0), .int .i64 7]) (by simp [results, Try.results12, go_sem]) rfl ⟨⟨_, rfl, .inr ⟨Hno.out, rfl⟩⟩, ?_⟩; (repeat (first | with_reducible exact Below.refl _ _ | with_reducible refine bl_drewN ?_ _ | with_reducible refine Below.drew ?_ | with_reducible refine bl_alloc ?_ _ | with_reducible refine Below.alloc ?_ (by first | omega | (simp; done) | (simp; omega)) _ | with_reducible refine Below.setCell ?_ (by first | omega | (simp; done) | (simp; omega)) _ | with_reducible assumption))))
      · obtain rfl : k = 32 := by omega
        go_wp2_with fail
        refine bodyPost_ret (v := .tuple #[dv (pst s 32), .int .i64 0]) (by simp [results, Try.results12, go_sem]) rfl ⟨⟨_, rfl, .inl ⟨⟨Hl.out, Hok.out⟩, rfl⟩⟩, ?_⟩
        (repeat (first | with_reducible exact Below.refl _ _ | with_reducible refine bl_drewN ?_ _ | with_reducible refine Below.drew ?_ | with_reducible refine bl_alloc ?_ _ | with_reducible refine Below.alloc ?_ (by first | omega | (simp; done) | (simp; omega)) _ | with_reducible refine Below.setCell ?_ (by first | omega | (simp; done) | (simp; omega)) _ | with_reducible assumption))
  · have hno : ¬ pok s := fun h => hl h.1
    have Hno := Lib.hid hno
    have hl3 : ((s.size : Int) != 32) = true := by simp; omega
    clear hno
    go_enter Try.func12, Try.ntmps12
    go_wp2_with fail
    refine bodyPost_ret (v := .tuple #[dv (0, 0, 0, 0), .int .i64 7]) (by simp [results, Try.results12, go_sem]) rfl ⟨⟨_, rfl, .inr ⟨Hno.out, rfl⟩⟩, ?_⟩
    (repeat (first | with_reducible exact Below.refl _ _ | with_reducible refine bl_drewN ?_ _ | with_reducible refine Below.drew ?_ | with_reducible refine bl_alloc ?_ _ | with_reducible refine Below.alloc ?_ (by first | omega | (simp; done) | (simp; omega)) _ | with_reducible refine Below.setCell ?_ (by first | omega | (simp; done) | (simp; omega)) _ | with_reducible assumption))
end Go.Proofs.Ytoiipifoehfcdaa.Dg
