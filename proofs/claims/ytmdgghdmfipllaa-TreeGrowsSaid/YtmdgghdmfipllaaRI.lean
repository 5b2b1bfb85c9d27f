/- Walks: same; lists of digests out of dice. -/
import Derived.Test.YtmdgghdmfipllaaRE
import Derived.Test.YtmdgghdmfipllaaMDn
import Derived.WalkKit
import Derived.WalkSpells
import Derived.WalkLawsBesides
import Derived.Deep.QuietTactic
import Derived.BigQuiet
import Derived.Deep.Draws
import Derived.Deep.AppendLies
import Derived.Laws.OwnMore
import Derived.Laws.BytesArg
import Derived.Lib.Hide
import Derived.Deep.LoopGhost
import Derived.RegionTactic
namespace Go.Proofs.Ytmdgghdmfipllaa.Tr
open Go.RowKit Go.Proofs.Ytmdgghdmfipllaa.Dg
open Go.Proofs.Ytmdgghdmfipllaa.Mw (I64 ret_int ret_bool Bk bl_trans own_ints gb_refl gb_trans gb_alloc gb_grown)
open Go.Proofs.Ytmdgghdmfipllaa.Dc (Di DI next_any)
set_option linter.unusedVariables false
attribute [local go_sem] eq_dig

set_option maxHeartbeats 1000000 in
theorem same_true (l : List St) (A B : Option Addr) (c d : Nat) (w : World) (hl : l.length ≤ 1000000) (hA : RdD w A l) (hB : RdD w B l) :
    Calls Try.prog 26 #[.slice A l.length c, .slice B l.length d] w fun e w' => e = .returned (.bool true) ∧ Below w.heap.size w w' := by
  have n0 : ((l.length : Int) != (l.length : Int)) = false := by simp
  have HA := Lib.hid hA
  have HB := Lib.hid hB
  clear hA hB
  go_enter Try.func26, Try.ntmps26
  go_wp2_with fail
  go_loopw [13] (fun i wr => ∃ k : Nat, k ≤ l.length ∧ i = .int .i64 k ∧ Below w.heap.size w wr) (fun i _ => l.length - (intOf i).toNat)
  case atStart => exact ⟨0, by omega, rfl, by (repeat (first | with_reducible exact Below.refl _ _ | with_reducible refine bl_drewN ?_ _ | with_reducible refine Below.drew ?_ | with_reducible refine bl_alloc ?_ _ | with_reducible refine Below.alloc ?_ (by first | omega | (simp; done) | (simp; omega)) _ | with_reducible refine Below.setCell ?_ (by first | omega | (simp; done) | (simp; omega)) _ | with_reducible assumption))⟩
  case round =>
    obtain ⟨k, hk, rfl, hb⟩ := hrel
    by_cases hlt : k < l.length
    · obtain ⟨b, off, rfl, hbl, c0, c1, c2, c3⟩ := (HA.out.old hb).at k hlt
      obtain ⟨b', off', rfl, hbl', d0, d1, d2, d3⟩ := (HB.out.old hb).at k hlt
      have q1 : (0 : Int) ≤ (k : Int) := by omega
      have q2 : (k : Int) < (l.length : Int) := by omega
      have he := eqb_self ((gd l k).1, (gd l k).2.1, (gd l k).2.2.1, (gd l k).2.2.2)
      go_wp2_with fail
      go_quiet (fail)
      go_wp2_with fail
      go_roundw
      case rel => exact ⟨k + 1, by omega, by go_num, by (repeat (first | with_reducible exact Below.refl _ _ | with_reducible refine bl_drewN ?_ _ | with_reducible refine Below.drew ?_ | with_reducible refine bl_alloc ?_ _ | with_reducible refine Below.alloc ?_ (by first | omega | (simp; done) | (simp; omega)) _ | with_reducible refine Below.setCell ?_ (by first | omega | (simp; done) | (simp; omega)) _ | with_reducible assumption))⟩
      case measure => simp [intOf]; omega
    · go_wp2_with fail
      go_ret
      exact ⟨rfl, hb⟩

/-- A list of digests, and the dice has turned. -/
def DD (n tp : Nat) (w : World) (e : Ending) (w' : World) : Prop := ∃ (l : List St) (A : Option Addr) (c : Nat), l.length = n ∧ e = .returned (.slice A l.length c) ∧ l.length ≤ c ∧ c ≤ maxLen ∧ RdD w' A l ∧ (∀ a, A = some a → w.heap.size ≤ a.block) ∧ Di w' tp ∧ w.grownBy w' (some tp)
set_option maxHeartbeats 1000000 in
theorem digests_any (tp n : Nat) (w : World) (ht : Di w tp) (hn : n ≤ 1000) :
    Calls Try.prog 10 #[.pointer (some ⟨tp, 0, none⟩), .int .i64 (n : Int)] w (DD n tp w) := by
  obtain ⟨i0, hi0, hz0, hz1, hz2⟩ := info_parts infoDig
  have htp := ht.lt
  go_enter Try.func10, Try.ntmps10
  go_wp2_with fail
  go_loopw [5, 6] (fun v i wr => ∃ (k : Nat) (l : List St), k ≤ n ∧ l.length = k ∧ i = .int .i64 k ∧ wr.ownsRow w.heap.size 34 4 v l.length (l.flatMap dl) ∧ Di wr tp ∧ w.grownBy wr (some tp)) (fun _ i _ => n - (intOf i).toNat)
  case atStart => exact ⟨0, [], by omega, rfl, rfl, World.ownsRow_nil _ _ _ _, ht, gb_refl _ _⟩
  case round =>
    obtain ⟨k, l, hk, hl, rfl, hown, hd, hg⟩ := hrel
    have HL := Lib.hid hl
    have hl1 : l.length ≤ n := by omega
    have hz := hg.size
    clear hl
    by_cases hlt : k < n
    · go_wp2_with fail
      refine (next_any tp _ _ hd (by omega) (by omega)).mono ?_
      rintro e w1 ⟨x, hx, rfl, hd1, hg1⟩
      have hown1 := hown.kept hg1 (.inr (fun e => by have := (hown.lt _ e).1; omega))
      have hk1 := gb_trans hg hg1
      clear hown hd hg hg1
      obtain ⟨hx0, hx1⟩ := hx
      go_wp2_with fail
      refine (next_any tp _ _ hd1 (by omega) (by omega)).mono ?_
      rintro e w2 ⟨y, hy, rfl, hd2, hg2⟩
      have hown2 := hown1.kept hg2 (.inr (fun e => by have := (hown1.lt _ e).1; omega))
      have hk2 := gb_trans hk1 hg2
      have hzz := hk2.size
      clear hown1 hd1 hk1 hg2
      obtain ⟨hy0, hy1⟩ := hy
      go_wp2_with (at_builtin; refine wpList_append_own _ rfl _ _ 27 rfl w.heap.size 34 i0 (dv (0, 0, 0, 0)) 4 16 Try.underlying27 hi0 hz0 hz1 hz2 rfl (by decide) _ _ _ rfl (hown2.alloc _) ⟨w2.heap.size, 0, none⟩ 1 1 (dl (x, (k : Int), y, 7)) rfl rfl ?c1 ?c2 ?c3 ?c4 ?c5 ?_)
      case c1 => exact news_dig (T := 34) (x, (k : Int), y, 7) (Mw.Bk.new _ _ _)
      case c2 => exact one_dig _
      case c3 => simp only [maxLen]; omega
      case c4 => omega
      case c5 => simp; omega
      intro v' w3 hown3 hgrow _
      have hro : ∀ j, Value.ownBlock _ = some j → w.heap.size ≤ j := fun j hj => (hown2.lt j hj).1
      have hd3 : Di w3 tp := (hd2.alloc _).grown hgrow (fun j hj => by have := hro j hj; omega)
      have hk3 : w.grownBy w3 (some tp) := gb_grown (gb_alloc hk2 _) hgrow hro
      have hown4 := own_snoc hown3
      clear hown3 hgrow hro hk2 hd2 hown2
      go_wp2_with fail
      go_roundw
      case rel => exact ⟨k + 1, l ++ [(x, (k : Int), y, 7)], by omega, by have := HL.out; simp; omega, by go_num, hown4, hd3, hk3⟩
      case measure => simp [intOf]; omega
    · obtain ⟨A1, c1, rfl, q1, q2, q3, q4⟩ := own_digs hown
      have Hk : Hid (l.length = n) := by unfold Hid; have := HL.out; omega
      clear hown
      go_wp2_with fail
      go_ret
      exact ⟨l, A1, c1, Hk.out, rfl, q1, q2, q3, fun a ha => (q4 a ha).1, hd, hg⟩
end Go.Proofs.Ytmdgghdmfipllaa.Tr
