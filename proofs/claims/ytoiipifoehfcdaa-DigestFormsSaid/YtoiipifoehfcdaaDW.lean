/- Walk: the statement DigestForms. -/
import Derived.Test.YtoiipifoehfcdaaDZ
import Derived.WalkKit
import Derived.WalkSpells
import Derived.WalkLawsBesides
import Derived.Deep.QuietTactic
import Derived.BigQuiet
import Derived.Deep.Draws
import Derived.Deep.AppendLies
import Derived.Laws.OwnMore
import Derived.Laws.BytesArg
import Derived.Lib.Hide
import Derived.Deep.LoopGhost
import Derived.OwnWalk
namespace Go.Proofs.Ytoiipifoehfcdaa.Dg
open Go.RowKit
set_option linter.unusedVariables false

theorem blt {a b c : World} (h : Below a.heap.size a b) (k : Below b.heap.size b c) : Below a.heap.size a c := h.trans (k.mono h.size)
def gl (s : ByteArray) (n : Nat) : List Int := (List.range n).map (gw s)
theorem gl_succ (s : ByteArray) (n : Nat) : gl s (n + 1) = gl s n ++ [gw s n] := by unfold gl; rw [List.range_succ, List.map_append]; rfl
theorem gl_len (s : ByteArray) (n : Nat) : (gl s n).length = n := by simp [gl]
theorem own_none {w w' : World} {b : Nat} {e : TypeId} {sz n : Nat} {v : Value} {xs : List Value} (h : w.ownsRow b e sz v n xs) (hb : Below w.heap.size w w') : w'.ownsRow b e sz v n xs :=
  h.kept (row := none) ⟨hb.os, hb.tape, hb.output, hb.size, fun k hk _ => hb.block k hk⟩ (by cases hv : v.ownBlock <;> simp)
attribute [local go_sem] eq_dig eq_arr eqb_self

set_option maxHeartbeats 2000000 in
set_option maxRecDepth 100000 in
theorem forms_any (l : List Int) (A : Option Addr) (c : Nat) (s : ByteArray) (tag : Int) (w : World) (hl : l.length ≤ maxLen) (hs : s.size ≤ maxLen) (hA : Rd w w.heap.size .i64 A l) :
    Calls Try.prog 6 #[.slice A l.length c, .string s, .int .u32 tag] w fun e w' => e = .returned (.bool true) ∧ Below w.heap.size w w' := by
  obtain ⟨i0, hi, hz0, hz1, hz2⟩ := info_parts info32
  unfold maxLen at hl hs
  by_cases hq : l.length ≤ 60 ∧ s.size ≤ 200
  · obtain ⟨h1, h2⟩ := hq
    have b1 : decide (60 < (l.length : Int)) = false := by simp; omega
    have b2 : decide (200 < (s.size : Int)) = false := by simp; omega
    go_enter Try.func6, Try.ntmps6
    go_wp2_with fail
    go_loopw [7, 25] (fun v j wr => ∃ k : Nat, k ≤ l.length ∧ j = .int .i64 k ∧ wr.ownsRow w.heap.size 22 1 v (2 * k) ((nw l k).map (Value.int .u32)) ∧ Below w.heap.size w wr) (fun _ j _ => l.length - (intOf j).toNat)
    case atStart => exact ⟨0, by omega, rfl, World.ownsRow_nil _ _ _ _, by (repeat (first | with_reducible exact Below.refl _ _ | with_reducible refine bl_drewN ?_ _ | with_reducible refine Below.drew ?_ | with_reducible refine bl_alloc ?_ _ | with_reducible refine Below.alloc ?_ (by first | omega | (simp; done) | (simp; omega)) _ | with_reducible refine Below.setCell ?_ (by first | omega | (simp; done) | (simp; omega)) _ | with_reducible assumption))⟩
    case round =>
      obtain ⟨k, hk, rfl, hown, hb⟩ := hrel
      by_cases hlt : k < l.length
      · obtain ⟨b, off, rfl, hbl, hc⟩ := (hA.below hb) k hlt
        go_wp2_with (at_builtin; refine wpList_append_own _ rfl _ _ 34 rfl w.heap.size 22 i0 (.int .u32 0) 1 4 Try.underlying34 hi hz0 hz1 hz2 rfl (by decide) _ _ _ rfl (hown.alloc _) ⟨wr.heap.size, 0, none⟩ 2 2 [_, _] rfl rfl (two_cells _ _ _ _ _ rfl) ?c2 ?c3 ?c4 ?c5 ?_)
        case c2 => simp [Value.oneCell']
        case c3 => simp only [maxLen]; omega
        case c4 => omega
        case c5 => have := hb.size; simp; omega
        intro v' w1 hown' hgrow _
        have hb1 : Below w.heap.size w w1 := (hb.alloc hb.size _).grown hgrow (by have := hb.size; simp; omega) (fun j hj => (hown.lt j hj).1)
        have hown1 : w1.ownsRow w.heap.size 22 1 v' (2 * (k + 1)) ((nw l (k + 1)).map (Value.int .u32)) := by
          rw [show 2 * (k + 1) = 2 * k + 2 by omega, nw, List.map_append]
          exact hown'
        clear hown' hgrow hown hb hc
        go_wp2_with fail
        go_roundw
        case rel => exact ⟨k + 1, by omega, by go_num, hown1, hb1⟩
        case measure => simp [intOf]; omega
      · obtain ⟨A1, c1, rfl, hr1⟩ := own_rd hown
        have hln : (nw l k).length < 1099511627776 := by rw [nw_len]; omega
        have Hw := Lib.hid (nw_words tag l k hlt hk)
        clear hown
        go_wp2_with fail
        clear hlt hk
        obtain ⟨wo, rfl⟩ : ∃ wo : World, wo = wr := ⟨_, rfl⟩
        have hzo := hb.size
        go_loopw [8, 11] (fun v j wr => ∃ q : Nat, q ≤ (s.size + 3) / 4 ∧ j = .int .i64 (4 * (q : Int)) ∧ wr.ownsRow wo.heap.size 22 1 v q ((gl s q).map (Value.int .u32)) ∧ Below wo.heap.size wo wr) (fun _ j _ => s.size + 4 - (intOf j).toNat)
        case atStart => exact ⟨0, by omega, by go_num, World.ownsRow_nil _ _ _ _, by (repeat (first | with_reducible exact Below.refl _ _ | with_reducible refine bl_drewN ?_ _ | with_reducible refine Below.drew ?_ | with_reducible refine bl_alloc ?_ _ | with_reducible refine Below.alloc ?_ (by first | omega | (simp; done) | (simp; omega)) _ | with_reducible refine Below.setCell ?_ (by first | omega | (simp; done) | (simp; omega)) _ | with_reducible assumption))⟩
        case round =>
          obtain ⟨q, hq, rfl, hown, hb2⟩ := hrel
          have hz2' := hb2.size
          by_cases hlt : 4 * q < s.size
          · go_wp2_with fail
            obtain ⟨wp, rfl⟩ : ∃ wp : World, wp = wr := ⟨_, rfl⟩
            go_loop [12, 13] (fun v j => ∃ t : Nat, t ≤ 4 ∧ v = .int .u32 ((hz s (4 * q) t : Nat) : Int) ∧ j = .int .i64 (3 - (t : Int))) (fun _ j => (intOf j + 1).toNat)
            case atStart => exact ⟨0, by omega, rfl, rfl⟩
            case round =>
              obtain ⟨t, ht, rfl, rfl⟩ := hrel
              have hh := hz_lt s (4 * q) t
              by_cases ht4 : t < 4
              · have htb : (0 : Int) ≤ 3 - (t : Int) := by omega
                by_cases hin : 4 * q + (3 - t) < s.size
                · have Hby := Lib.hid (byt_at s (4 * q + (3 - t)) hin)
                  have Hor := Lib.hid (hz_or s (4 * q) t ht4)
                  have hin' : 4 * (q : Int) + (3 - (t : Int)) < s.size := by omega
                  have hc1 : (↑s[4 * q + (3 - t)].toNat : Int) ≤ 255 := by have := s[4 * q + (3 - t)].toNat_lt; omega
                  have hin0 : (0 : Int) ≤ 4 * (q : Int) + (3 - (t : Int)) := by omega
                  have hin1 : (4 * (q : Int) + (3 - (t : Int))).toNat = 4 * q + (3 - t) := by omega
                  go_wp2_with fail
                  go_round
                  case rel => exact ⟨t + 1, by omega, by rw [← Hor.out, Hby.out], by go_num⟩
                  case measure => simp [intOf]; omega
                · have Hno := Lib.hid (hz_no s (4 * q) t ht4 hin)
                  have hin' : ¬ 4 * (q : Int) + (3 - (t : Int)) < s.size := by omega
                  go_wp2_with fail
                  go_round
                  case rel => exact ⟨t + 1, by omega, by rw [← Hno.out], by go_num⟩
                  case measure => simp [intOf]; omega
              · obtain rfl : t = 4 := by omega
                have Hg := Lib.hid (hz_gw s q)
                go_wp2_with (at_builtin; refine wpList_append_own _ rfl _ _ 34 rfl wo.heap.size 22 i0 (.int .u32 0) 1 4 Try.underlying34 hi hz0 hz1 hz2 rfl (by decide) _ _ _ rfl (hown.alloc _) ⟨wp.heap.size, 0, none⟩ 1 1 [_] rfl rfl (cell_one_new _ _ _) ?c2 ?c3 ?c4 ?c5 ?_)
                case c2 => simp [Value.oneCell']
                case c3 => simp only [maxLen]; omega
                case c4 => omega
                case c5 => first | omega | (simp; omega)
                intro v' w1 hown' hgrow _
                have hb1 : Below wo.heap.size wo w1 := (hb2.alloc hb2.size _).grown hgrow (by simp; omega) (fun j hj => (hown.lt j hj).1)
                have hown1 : w1.ownsRow wo.heap.size 22 1 v' (q + 1) ((gl s (q + 1)).map (Value.int .u32)) := by
                  rw [gl_succ, List.map_append, ← Hg.out]
                  exact hown'
                clear hown' hgrow hown hb2
                go_wp2_with fail
                go_roundw
                case rel => exact ⟨q + 1, by omega, by go_num, hown1, hb1⟩
                case measure => simp [intOf]; omega
          · obtain rfl : q = (s.size + 3) / 4 := by omega
            go_wp2_with (at_builtin; refine wpList_append_own _ rfl _ _ 34 rfl wo.heap.size 22 i0 (.int .u32 0) 1 4 Try.underlying34 hi hz0 hz1 hz2 rfl (by decide) _ _ _ rfl (hown.alloc _) ⟨wr.heap.size, 0, none⟩ 1 1 [_] rfl rfl (cell_one_new _ _ _) ?c2 ?c3 ?c4 ?c5 ?_)
            case c2 => simp [Value.oneCell']
            case c3 => simp only [maxLen]; omega
            case c4 => omega
            case c5 => first | omega | (simp; omega)
            intro v' w1 hown' hgrow _
            have hb1 : Below wo.heap.size wo w1 := (hb2.alloc hb2.size _).grown hgrow (by simp; omega) (fun j hj => (hown.lt j hj).1)
            obtain ⟨L2, hL2⟩ : ∃ L : List Int, L = gl s ((s.size + 3) / 4) ++ [(s.size : Int)] := ⟨_, rfl⟩
            have hown1 : w1.ownsRow wo.heap.size 22 1 v' ((s.size + 3) / 4 + 1) (L2.map (Value.int .u32)) := by
              rw [hL2, List.map_append]
              exact hown'
            obtain ⟨A2, c2, rfl, hr2⟩ := own_rd hown1
            have hln2 : L2.length < 1099511627776 := by rw [hL2, List.length_append, gl_len]; simp; omega
            have Hb : Hid (bwl s ((s.size + 3) / 4) = L2) := by rw [hL2]; exact bwl_gw s
            clear hL2
            clear hown' hgrow hown hown1 hb2
            have hcw : Below w.heap.size w w1 := blt hb hb1
            have HA := Lib.hid ((hA.below hcw).more hcw.size)
            have HR := Lib.hid ((hr1.below hb1).more hb1.size)
            have HR2 := Lib.hid hr2
            clear hA hr1 hr2 hb hb1
            go_wp2_with fail
            refine (numbers_any tag A c l _ (by omega) HA.out).mono ?_
            rintro e w2 ⟨rfl, hx2⟩
            have hc2 := blt hcw hx2
            have HR' := Lib.hid ((HR.out.below hx2).more hx2.size)
            have HR2' := Lib.hid ((HR2.out.below hx2).more hx2.size)
            clear hx2 HR HR2
            go_wp2_with fail
            refine (words_any tag A1 c1 (nw l k) _ hln HR'.out).mono ?_
            rintro e w3 ⟨rfl, hx3⟩
            have hc3 := blt hc2 hx3
            have HR3 := Lib.hid ((HR2'.out.below hx3).more hx3.size)
            clear hx3
            rw [Hw.out]
            go_wp2_with fail
            refine (bytes_any tag s _ (by omega)).mono ?_
            rintro e w4 ⟨rfl, hx4⟩
            have hc4 := blt hc3 hx4
            have HR4 := Lib.hid ((HR3.out.below hx4).more hx4.size)
            clear hx4
            go_wp2_with fail
            refine (words_any tag A2 c2 _ _ hln2 HR4.out).mono ?_
            rintro e w5 ⟨rfl, hx5⟩
            have hc5 := blt hc4 hx5
            clear hx5
            rw [Hb.out]
            go_wp2_with fail
            refine (sane_any _).mono ?_
            rintro e w6 ⟨rfl, hx6⟩
            go_wp2_with fail
            go_ret
            exact ⟨rfl, blt hc5 hx6⟩
  · go_enter Try.func6, Try.ntmps6
    go_wp2_with (go_at_call 9; refine (sane_any _).mono ?_; rintro e w5 ⟨rfl, hb5⟩)
    all_goals (first | (exfalso; omega) | (go_ret; exact ⟨rfl, hb5⟩))
end Go.Proofs.Ytoiipifoehfcdaa.Dg
