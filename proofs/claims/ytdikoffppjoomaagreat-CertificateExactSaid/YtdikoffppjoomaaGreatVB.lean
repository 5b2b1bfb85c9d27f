/- Walks: the digests of a log, as the statement makes them. -/
import Derived.Test.YtdikoffppjoomaaGreatVA
import Derived.WalkKit
import Derived.WalkSpells
import Derived.WalkLawsBesides
import Derived.Deep.QuietTactic
import Derived.BigQuiet
import Derived.Deep.Draws
import Derived.Deep.AppendLies
import Derived.Laws.OwnMore
import Derived.Laws.BytesArg
import Derived.Lib.Hide
import Derived.Deep.LoopGhost
import Derived.OwnWalk
import Derived.Maps.AppendAt
import Derived.RegionTactic
namespace Go.Proofs.YtdikoffppjoomaaGreat.Ct
open Go.RowKit Go.Proofs.YtdikoffppjoomaaGreat.Dg
open Go.Proofs.YtdikoffppjoomaaGreat.Mw (I64 ret_int ret_bool Bk bl_trans own_ints RdI RdR ge ge_lt gi ge_mem own_rows wpList_append_run)
open Go.Proofs.YtdikoffppjoomaaGreat.Tr (RdD dl own_digs own_snoc infoDig news_dig one_dig)
set_option linter.unusedVariables false
set_option linter.unusedSimpArgs false
set_option maxRecDepth 100000

theorem own_olB {B : Nat} {e : TypeId} {k : Nat} {v : Value} {n : Nat} {xs : List Value} {w w' : World} (h : w.ownsRow B e k v n xs) (hb : Below w.heap.size w w') : w'.ownsRow B e k v n xs :=
  h.kept (row := none) ⟨hb.os, hb.tape, hb.output, hb.size, fun j hj _ => hb.block j hj⟩ (by cases hv : v.ownBlock <;> simp)
set_option maxHeartbeats 1000000 in
theorem ldigests_any (l : List Le) (A : Option Addr) (c : Nat) (w : World) (hl : l.length ≤ 1000) (hr : RdL w A l) : Calls Tryz.prog 16 #[.slice A l.length c] w (DE (l.map dgE) w) := by
  obtain ⟨i0, hi0, hz0, hz1, hz2⟩ := info_parts infoDig
  have HR := Lib.hid hr
  clear hr
  go_enter Tryz.func16, Tryz.ntmps16
  go_wp2_with fail
  go_loopw [3, 7] (fun v i wr => ∃ k : Nat, k ≤ l.length ∧ i = .int .i64 k ∧ wr.ownsRow w.heap.size 35 4 v ((l.take k).map dgE).length (((l.take k).map dgE).flatMap dl) ∧ Below w.heap.size w wr) (fun _ i _ => l.length - (RowKit.intOf i).toNat)
  case atStart => exact ⟨0, by omega, rfl, by simpa using World.ownsRow_nil _ _ _ _, by (repeat (first | with_reducible exact Below.refl _ _ | with_reducible refine bl_drewN ?_ _ | with_reducible refine Below.drew ?_ | with_reducible refine bl_alloc ?_ _ | with_reducible refine Below.alloc ?_ (by first | omega | (simp; done) | (simp; omega)) _ | with_reducible refine Below.setCell ?_ (by first | omega | (simp; done) | (simp; omega)) _ | with_reducible assumption))⟩
  case round =>
    obtain ⟨k, hk, rfl, hown, hb⟩ := hrel
    by_cases hlt : k < l.length
    · obtain ⟨b, off, rfl, hbl, c0, c1, c2, c3, c4, c5⟩ := le_at (HR.out.old hb) k hlt
      have HE := Lib.hid (rentry_any (ge l k))
      have HT := Lib.hid (take_map_succ dgE l k hlt)
      have q1 : (0 : Int) ≤ (k : Int) := by omega
      have hlt' : (k : Int) < l.length := by omega
      have hsz := hb.size
      generalize hL : (l.take k).map dgE = L at hown HT
      have hLl : L.length ≤ 1000 := by rw [← hL]; simp; omega
      clear hL
      go_wp2_with fail
      refine (HE.out _).mono ?_
      rintro e w3 ⟨rfl, hb3⟩
      have hown3 := own_olB hown hb3
      have hb4 := bl_trans hb hb3
      clear c0 c1 c2 c3 c4 c5 hbl hown hb
      go_wp2_with (at_builtin; refine wpList_append_own _ rfl _ _ 47 rfl w.heap.size 35 i0 (dv (0, 0, 0, 0)) 4 16 Tryz.underlying47 hi0 hz0 hz1 hz2 rfl (by decide) _ _ _ rfl (hown3.alloc _) ⟨w3.heap.size, 0, none⟩ 1 1 (dl (dgE (ge l k))) rfl rfl ?c1 ?c2 ?c3 ?c4 ?c5 ?_)
      case c1 => exact news_dig (T := 35) (dgE (ge l k)) (Mw.Bk.new _ _ _)
      case c2 => exact one_dig _
      case c3 => simp only [maxLen]; omega
      case c4 => omega
      case c5 => have := hb4.size; simp; omega
      intro v' w5 hown5 hgrow _
      have hro : ∀ j, Value.ownBlock _ = some j → w.heap.size ≤ j := fun j hj => (hown3.lt j hj).1
      have hb5 : Below w.heap.size w w5 := Below.grown (Mw.bl_alloc hb4 _) hgrow (by have := hb4.size; simp; omega) hro
      have hown6 := own_snoc hown5
      clear hown5 hgrow hro hown3 hb4 hb3
      go_wp2_with fail
      go_roundw
      case rel => exact ⟨k + 1, by omega, by go_num, by rw [HT.out]; exact hown6, hb5⟩
      case measure => simp [RowKit.intOf]; omega
    · have hkl : k = l.length := by omega
      have Hown : Hid (wr.ownsRow w.heap.size 35 4 u3 (l.map dgE).length ((l.map dgE).flatMap dl)) := by unfold Hid; rw [hkl, List.take_length] at hown; exact hown
      obtain ⟨A1, c1, rfl, p1, p2, p3, -⟩ := own_digs Hown.out
      clear hkl hown Hown
      go_wp2_with fail
      go_ret
      exact ⟨A1, c1, rfl, p1, p2, p3, hb⟩
end Go.Proofs.YtdikoffppjoomaaGreat.Ct
