/- Walks: the reference's search through the alphabet; comparing two lists of texts. -/
import Derived.Test.YtpdekglmmgecmaaUB
import Derived.WalkKit
import Derived.WalkSpells
import Derived.WalkLawsBesides
import Derived.Deep.QuietTactic
import Derived.BigQuiet
import Derived.Deep.Draws
import Derived.Deep.AppendLies
import Derived.Laws.OwnMore
import Derived.Laws.BytesArg
import Derived.Lib.Hide
import Derived.Deep.LoopGhost
import Derived.Deep.CutBlock
import Derived.RegionTactic
namespace Go.Proofs.Ytpdekglmmgecmaa.Id
open Go.RowKit
open Go.Proofs.Ytpdekglmmgecmaa.Mw (Bk RdE gb_of own_old own_enc own_frozen one_new gb_set gb_refl ge)
set_option linter.unusedSimpArgs false
set_option linter.unusedVariables false
set_option linter.unusedSimpArgs false

theorem cut_upd (s : ByteArray) (hl : s.size = 9) {i : Nat} (hi : i < 9) {c : Int} : s.extract 0 i ++ strOfNums [c] ++ s.extract (i + 1) 9 = S9 (upd (byt s) i c) := by
  apply ba_ext
  unfold S9
  rw [ByteArray.data_append, ByteArray.data_append, Array.toList_append, Array.toList_append, Lib.extract_data, Lib.extract_data, strOfNums_data, strOfNums_data]
  have h : s.data.toList.length = 9 := by simpa using hl
  unfold upd byt
  generalize s.data.toList = l at *
  match l, h with
  | [c0, c1, c2, c3, c4, c5, c6, c7, c8], _ => rcases i9 hi with h | h | h | h | h | h | h | h | h <;> subst h <;> simp

attribute [local go_sem] conv1d strOfNums_size

set_option maxHeartbeats 2000000 in
set_option maxRecDepth 100000 in
theorem with_any (s : ByteArray) (hl : s.size = 9) (i : Nat) (hi : i < 9) (w : World) :
    Calls Try.prog 37 #[.string s, .int .i64 (i : Int)] w (RetS (wt (byt s) i 43) w) := by
  obtain ⟨i0, hi0, hz0, hz1, hz2⟩ := info_parts infoStr
  have Hi := Lib.hid hi
  have Hl := Lib.hid hl
  have hi9 : (i : Int) ≤ 9 := by omega
  have hi9' : (i : Int) + 1 ≤ 9 := by omega
  have hi0' : (0 : Int) ≤ i := by omega
  go_enter Try.func37, Try.ntmps37
  go_wp2_with fail
  go_loopw [5, 6] (fun x j wr => ∃ k : Nat, k ≤ 43 ∧ j = .int .i64 (48 + (k : Int)) ∧ wr.ownsRow w.heap.size 9 1 x (wt (byt s) i k).length ((wt (byt s) i k).map Value.string) ∧ Below w.heap.size w wr) (fun _ j _ => (91 - intOf j).toNat)
  case atStart => exact ⟨0, by omega, rfl, World.ownsRow_nil _ _ _ _, Below.refl _ _⟩
  case round =>
    obtain ⟨k, hk, rfl, hown, hb⟩ := hrel
    have hwl := wt_len (byt s) i k
    by_cases hlt : k < 43
    · have hk1 : 48 + (k : Int) < 91 := by omega
      have hk2 : 48 + (k : Int) ≤ 255 := by omega
      have hk0 : 0 ≤ 48 + (k : Int) := by omega
      go_wp2_with fail
      go_region
      all_goals
        rw [cut_upd s Hl.out Hi.out]
        have hcb : 0 ≤ 48 + (k : Int) ∧ 48 + (k : Int) ≤ 255 := by omega
        have hpe := pe_S9 (bnd_upd (i := i) (c := 48 + (k : Int)) (bnd_byt s) hcb)
        have hsz : (S9 (upd (byt s) i (48 + (k : Int)))).size ≤ maxLen := by rw [S9_size]; unfold maxLen; omega
        have ho := (hown.alloc (.cells #[.int .u8 (48 + (k : Int))] 5)).drew
        have hbV : Below w.heap.size w (wr.alloc (.cells #[.int .u8 (48 + (k : Int))] 5)).drew := by (repeat (first | with_reducible exact Below.refl _ _ | with_reducible refine bl_drewN ?_ _ | with_reducible refine Below.drew ?_ | with_reducible refine bl_alloc ?_ _ | with_reducible refine Below.alloc ?_ (by first | omega | (simp; done) | (simp; omega)) _ | with_reducible refine Below.setCell ?_ (by first | omega | (simp; done) | (simp; omega)) _ | with_reducible assumption))
        generalize (wr.alloc (.cells #[.int .u8 (48 + (k : Int))] 5)).drew = V at ho hbV ⊢
        obtain ⟨t, ht⟩ : ∃ t, S9 (upd (byt s) i (48 + (k : Int))) = t := ⟨_, rfl⟩
        rw [ht] at hpe hsz ⊢
        have Ht := Lib.hid ht
        have Hpe := Lib.hid hpe
        clear ht hpe hown hb hi9 hi9' hi0' hl
        go_wp2_with fail
        refine (rparse_any t hsz _).mono ?_
        rintro e w2 ⟨rfl, hb2⟩
        have ho2 := own_old ho hb2
        have hbW := Mw.bl_trans hbV hb2
        have hbz := hbW.size
        clear ho hbV hb2
        by_cases hv : vl (upd (byt s) i (48 + (k : Int))) = true
        · have z1 : (pe t == 0) = true := beq_iff_eq.2 (Hpe.out.2 hv)
          have Hw : Hid (wt (byt s) i (k + 1) = wt (byt s) i k ++ [t]) := by
            have := wt_yes hv
            rw [Ht.out] at this
            exact this
          clear hv
          go_wp2_with (at_builtin; refine wpList_append_own _ rfl _ _ 40 rfl w.heap.size 9 i0 (.string ⟨#[]⟩) 1 16 Try.underlying40 hi0 hz0 hz1 hz2 rfl (by decide) _ _ _ rfl ((ho2.alloc _).alloc _) ⟨w2.heap.size + 1, 0, none⟩ 1 1 [_] rfl rfl (one_new _ _ _ (by simp)) ?c2 ?c3 ?c4 ?c5 ?_)
          case c2 => simp [Value.oneCell']
          case c3 => simp only [maxLen]; omega
          case c4 => omega
          case c5 => first | omega | (simp; omega)
          intro v6 w6 hown6 hgrow6 _
          have hb6 := Below.grown (Mw.bl_alloc (Mw.bl_alloc hbW _) _) hgrow6 (by simp; omega) (fun q hq => by have := (ho2.lt q hq).1; omega)
          have hown7 : w6.ownsRow w.heap.size 9 1 v6 (wt (byt s) i (k + 1)).length ((wt (byt s) i (k + 1)).map Value.string) := by
            rw [Hw.out, List.map_append, List.length_append]; exact hown6
          clear hown6 hgrow6 ho2 hbW
          go_wp2_with fail
          go_roundw
          case rel => exact ⟨k + 1, by omega, by go_num, hown7, hb6⟩
          case measure => simp [intOf]; omega
        · have z1 : (pe t == 0) = false := beq_eq_false_iff_ne.2 fun e => hv (Hpe.out.1 e)
          have Hw := Lib.hid (wt_no (by simpa using hv))
          clear hv
          go_wp2_with fail
          go_roundw
          case rel => exact ⟨k + 1, by omega, by go_num, by rw [Hw.out]; exact ho2.alloc _, by (repeat (first | with_reducible exact Below.refl _ _ | with_reducible refine bl_drewN ?_ _ | with_reducible refine Below.drew ?_ | with_reducible refine bl_alloc ?_ _ | with_reducible refine Below.alloc ?_ (by first | omega | (simp; done) | (simp; omega)) _ | with_reducible refine Below.setCell ?_ (by first | omega | (simp; done) | (simp; omega)) _ | with_reducible assumption))⟩
          case measure => simp [intOf]; omega
    · obtain rfl : k = 43 := by omega
      obtain ⟨A, cA, rfl, hr, hA⟩ := own_enc hown
      have hfr := own_frozen hown
      have HA := Lib.hid hA
      clear hA hown hl
      go_wp2_with fail
      go_ret
      exact ⟨A, cA, rfl, hr, HA.out, hfr, hb⟩
/-- Two lists of texts that read alike are found equal. -/
theorem texts_any (l m : List ByteArray) (A B : Option Addr) (cA cB : Nat) (w : World) (hl : l.length ≤ 1000) (hm : m.length ≤ 1000) (hA : RdE Value.string w A l) (hB : RdE Value.string w B m) (he : l = m) :
    Calls Try.prog 23 #[.slice A l.length cA, .slice B m.length cB] w fun e w' => e = .returned (.bool true) ∧ Below w.heap.size w w' := by
  subst he
  have t0 : ((l.length : Int) != (l.length : Int)) = false := by simp
  go_enter Try.func23, Try.ntmps23
  go_wp2_with fail
  clear t0
  go_loopw [5] (fun j wr => ∃ k : Nat, k ≤ l.length ∧ j = .int .i64 k ∧ Below w.heap.size w wr) (fun j _ => l.length - (intOf j).toNat)
  case atStart => exact ⟨0, by omega, rfl, Below.refl _ _⟩
  case round =>
    obtain ⟨k, hk, rfl, hb⟩ := hrel
    by_cases hlt : k < l.length
    · obtain ⟨a, f, e1, hal, hac⟩ := (hA.old hb) k hlt
      obtain ⟨b, g, e2, hbl, hbc⟩ := (hB.old hb) k hlt
      subst e1 e2
      have hk1 : (k : Int) < l.length := by omega
      obtain ⟨t, ht⟩ : ∃ t, ge l k = t := ⟨_, rfl⟩
      rw [ht] at hac hbc
      clear ht
      have tt : (t.toList == t.toList) = true := by simp
      go_wp2_with fail
      go_quiet (fail)
      go_wp2_with fail
      go_roundw
      case rel => exact ⟨k + 1, by omega, by go_num, by (repeat (first | with_reducible exact Below.refl _ _ | with_reducible refine bl_drewN ?_ _ | with_reducible refine Below.drew ?_ | with_reducible refine bl_alloc ?_ _ | with_reducible refine Below.alloc ?_ (by first | omega | (simp; done) | (simp; omega)) _ | with_reducible refine Below.setCell ?_ (by first | omega | (simp; done) | (simp; omega)) _ | with_reducible assumption))⟩
      case measure => simp [intOf]; omega
    · go_wp2_with fail
      go_ret
      exact ⟨rfl, hb⟩
end Go.Proofs.Ytpdekglmmgecmaa.Id
