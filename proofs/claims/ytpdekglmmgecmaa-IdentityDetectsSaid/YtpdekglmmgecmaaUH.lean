/- Walk: the reference's insert. -/
import Derived.Test.YtpdekglmmgecmaaUG
import Derived.WalkKit
import Derived.WalkSpells
import Derived.WalkLawsBesides
import Derived.Deep.QuietTactic
import Derived.BigQuiet
import Derived.Deep.Draws
import Derived.Deep.AppendLies
import Derived.Laws.OwnMore
import Derived.Laws.BytesArg
import Derived.Lib.Hide
import Derived.Deep.LoopGhost
import Derived.Deep.CutBlock
import Derived.WalkLawsBesides
namespace Go.Proofs.Ytpdekglmmgecmaa.Id
open Go.RowKit
open Go.Proofs.Ytpdekglmmgecmaa.Mw (Bk RdE gb_of own_old own_enc own_frozen one_new gb_set gb_refl ge ge_lt wpList_append_run)
set_option linter.unusedSimpArgs false
set_option linter.unusedVariables false
set_option linter.unusedSimpArgs false

theorem below_none {w w' : World} (hg : w.grownBy w' (Value.slice none 0 0).ownBlock) : Below w.heap.size w w' := ⟨hg.os, hg.tape, hg.output, hg.size, fun i hi => hg.block i hi (by simp [Value.ownBlock])⟩
theorem less_b (a b : ByteArray) : Op.bytesLess a.toList b.toList = decide (tl a < tl b) := by
  rw [ByteArray.toList_eq, ByteArray.toList_eq]; exact bytesLess_eq _ _
theorem rde_take {w : World} {b off : Nat} {l : List ByteArray} (h : RdE Value.string w (some ⟨b, off, none⟩) l) (k : Nat) : RdE Value.string w (some ⟨b, off, none⟩) (l.take k) := fun i hi => by
  have hi2 : i < k ∧ i < l.length := by rw [List.length_take] at hi; omega
  obtain ⟨b', f', e, hlt, hc⟩ := h i hi2.2
  refine ⟨b', f', e, hlt, ?_⟩
  rw [hc]
  congr 2
  unfold ge
  rw [List.getD_eq_getElem?_getD, List.getD_eq_getElem?_getD, List.getElem?_take_of_lt hi2.1]
theorem rde_drop {w : World} {b off : Nat} {l : List ByteArray} (h : RdE Value.string w (some ⟨b, off, none⟩) l) (k : Nat) : RdE Value.string w (some ⟨b, off + k, none⟩) (l.drop k) := fun i hi => by
  have hi2 : k + i < l.length := by rw [List.length_drop] at hi; omega
  obtain ⟨b', f', e, hlt, hc⟩ := h (k + i) hi2
  cases e
  refine ⟨b, off + k, rfl, hlt, ?_⟩
  rw [Nat.add_assoc, hc]
  congr 2
  unfold ge
  rw [List.getD_eq_getElem?_getD, List.getD_eq_getElem?_getD, List.getElem?_drop]
/-- The ending is a slice of texts. -/
def RetL (l : List ByteArray) (w : World) (e : Ending) (w' : World) : Prop := ∃ v, e = .returned v ∧ Sl w' v l ∧ Below w.heap.size w w'
set_option maxHeartbeats 2000000 in
theorem insert_some (l : List ByteArray) (b off c : Nat) (s : ByteArray) (w : World) (hl : l.length ≤ 1000) (hlc : l.length ≤ c) (hcm : c ≤ maxLen) (hb : b < w.heap.size) (hr : RdE Value.string w (some ⟨b, off, none⟩) l) :
    Calls Try.prog 39 #[.slice (some ⟨b, off, none⟩) l.length c, .string s] w (RetL (ins l s) w) := by
  obtain ⟨i0, hi0, hz0, hz1, hz2⟩ := info_parts infoStr
  unfold maxLen at hcm
  go_enter Try.func39, Try.ntmps39
  go_wp2_with fail
  go_loop [5] (fun x => ∃ k : Nat, k ≤ l.length ∧ x = .int .i64 k ∧ Hid (∀ j, j < k → tl (ge l j) < tl s)) (fun x => l.length - (intOf x).toNat)
  case atStart => exact ⟨0, Nat.zero_le _, rfl, fun j hj => absurd hj (by omega)⟩
  case round =>
    obtain ⟨k, hk, rfl, hlow⟩ := hrel
    have hkc : (k : Int) ≤ c := by omega
    have hk0 : (0 : Int) ≤ k := by omega
    by_cases hlt : k < l.length
    · obtain ⟨_, _, e, _, hc⟩ := hr k hlt
      cases e
      have hlt' : (k : Int) < l.length := by omega
      by_cases hs : tl (ge l k) < tl s
      · have hb1 : Op.bytesLess (ge l k).toList s.toList = true := by rw [less_b]; exact decide_eq_true hs
        have Hn : Hid (∀ j, j < k + 1 → tl (ge l j) < tl s) := fun j hj => by
          by_cases e : j = k
          · subst e; exact hs
          · exact hlow.out j (by omega)
        clear hs
        go_wp2_with fail
        go_round
        case rel => exact ⟨k + 1, by omega, by go_num, Hn⟩
        case measure => simp [intOf]; omega
      · have hb1 : Op.bytesLess (ge l k).toList s.toList = false := by rw [less_b]; exact decide_eq_false hs
        have Hi := Lib.hid (ins_at l s k hk hlow.out (fun _ => hs))
        clear hs
        by_cases he : ge l k = s
        · have hb2 : ((ge l k).toList == s.toList) = true := by rw [streq]; exact decide_eq_true he
          have Hj : Hid (ins l s = l) := by unfold Hid; rw [Hi.out, if_pos ⟨hlt, he⟩]
          clear he
          go_wp2_with fail
          go_ret
          rw [Hj.out]
          exact ⟨_, rfl, .inr ⟨b, off, c, rfl, hlc, by unfold maxLen; omega, hb, hr⟩, Below.refl _ _⟩
        · have hb2 : ((ge l k).toList == s.toList) = false := by rw [streq]; exact decide_eq_false he
          have Hj : Hid (ins l s = l.take k ++ [s] ++ l.drop k) := by unfold Hid; rw [Hi.out, if_neg (fun x => he x.2)]
          clear he
          obtain ⟨v1, w1, hrun1, own1, g1⟩ := app_run (w := w) (base := w.heap.size) (v := .slice none 0 0) (xs := []) (l := l.take k) (c := c) (World.ownsRow_nil _ _ _ _) (rde_take hr k) (by rw [List.length_take]; simp; omega) (Nat.le_refl _)
          rw [show (l.take k).length = k by rw [List.length_take]; omega] at hrun1
          rw [List.nil_append] at own1
          have hv1 := below_none g1
          obtain ⟨v2, w2, hrun2, own2, g2⟩ := app_run (w := w1.alloc (.cells #[.string s] 9)) (l := [s]) (A := some ⟨w1.heap.size, 0, none⟩) (c := 1) (own1.alloc _) (RdE.bk (Bk.new _ _ _) rfl) (by rw [List.length_take]; simp; omega) (by have := hv1.size; simp; omega)
          have hv2 := Below.grown (Mw.bl_alloc hv1 _) g2 (by have := hv1.size; simp; omega) (fun q hq => by have := (own1.lt q hq).1; omega)
          have hr2 := hr.old hv2
          obtain ⟨v3, w3, hrun3, own3, g3⟩ := app_run (w := w2) (l := l.drop k) (A := some ⟨b, off + k, none⟩) (c := c - k) own2 (rde_drop hr2 k) (by rw [List.length_append, List.length_take]; simp; omega) hv2.size
          have hv3 := Below.grown hv2 g3 hv2.size (fun q hq => by have := (own2.lt q hq).1; omega)
          rw [show (l.drop k : List ByteArray).length = l.length - k by simp] at hrun3
          clear hr2 g1 g2 g3 hv1 hv2 own1 own2
          have Own3 := Lib.hid own3
          have Hv3 := Lib.hid hv3
          clear own3 hv3
          go_wp2_with (first | (at_builtin; refine wpList_append_run rfl (.tmp 34) (.tmp 37) 40 rfl (.slice none 0 0) (.slice (some ⟨b, off, none⟩) k c) rfl rfl v1 w1 (by exact hrun1) ?_; clear hrun1) | (at_builtin; refine wpList_append_run rfl (.tmp 39) (.tmp 41) 40 rfl v1 (.slice (some ⟨w1.heap.size, 0, none⟩) 1 1) rfl rfl v2 w2 (by exact hrun2) ?_; clear hrun2) | (at_builtin; refine wpList_append_run rfl (.tmp 43) (.tmp 46) 40 rfl v2 (.slice (some ⟨b, off + k, none⟩) (l.length - k) (c - k)) rfl rfl v3 w3 (by exact hrun3) ?_; clear hrun3))
          go_ret
          rw [Hj.out]
          exact ⟨v3, rfl, Sl.own Own3.out, Hv3.out⟩
    · obtain rfl : k = l.length := by omega
      have Hi := Lib.hid (ins_at l s l.length hk hlow.out (fun h => absurd h (by omega)))
      have Hj : Hid (ins l s = l.take l.length ++ [s] ++ []) := by unfold Hid; rw [Hi.out, if_neg (fun x => absurd x.1 (by omega)), List.drop_length]
      by_cases hcl : c = l.length
      · subst hcl
        obtain ⟨v1, w1, hrun1, own1, g1⟩ := app_run (w := w) (base := w.heap.size) (v := .slice none 0 0) (xs := []) (l := l.take l.length) (c := l.length) (World.ownsRow_nil _ _ _ _) (rde_take hr l.length) (by rw [List.length_take]; simp; omega) (Nat.le_refl _)
        rw [show (l.take l.length).length = l.length by rw [List.length_take]; omega] at hrun1
        rw [List.nil_append] at own1
        have hv1 := below_none g1
        obtain ⟨v2, w2, hrun2, own2, g2⟩ := app_run (w := w1.alloc (.cells #[.string s] 9)) (l := [s]) (A := some ⟨w1.heap.size, 0, none⟩) (c := 1) (own1.alloc _) (RdE.bk (Bk.new _ _ _) rfl) (by rw [List.length_take]; simp; omega) (by have := hv1.size; simp; omega)
        have hv2 := Below.grown (Mw.bl_alloc hv1 _) g2 (by have := hv1.size; simp; omega) (fun q hq => by have := (own1.lt q hq).1; omega)
        have hr2 := hr.old hv2
        obtain ⟨v3, w3, hrun3, own3, g3⟩ := app_run (w := w2) (l := []) (A := some ⟨b, off, none⟩) (c := 0) own2 (RdE.nil _ _ _) (by rw [List.length_append, List.length_take]; simp; omega) hv2.size
        have hv3 := Below.grown hv2 g3 hv2.size (fun q hq => by have := (own2.lt q hq).1; omega)
        rw [show ([] : List ByteArray).length = 0 by simp] at hrun3
        clear hr2 g1 g2 g3 hv1 hv2 own1 own2
        have Own3 := Lib.hid own3
        have Hv3 := Lib.hid hv3
        clear own3 hv3
        go_wp2_with (first | (at_builtin; refine wpList_append_run rfl (.tmp 34) (.tmp 37) 40 rfl (.slice none 0 0) (.slice (some ⟨b, off, none⟩) l.length l.length) rfl rfl v1 w1 (by exact hrun1) ?_; clear hrun1) | (at_builtin; refine wpList_append_run rfl (.tmp 39) (.tmp 41) 40 rfl v1 (.slice (some ⟨w1.heap.size, 0, none⟩) 1 1) rfl rfl v2 w2 (by exact hrun2) ?_; clear hrun2) | (at_builtin; refine wpList_append_run rfl (.tmp 43) (.tmp 46) 40 rfl v2 (.slice (some ⟨b, off, none⟩) (0) (0)) rfl rfl v3 w3 (by exact hrun3) ?_; clear hrun3))
        go_ret
        rw [Hj.out]
        exact ⟨v3, rfl, Sl.own Own3.out, Hv3.out⟩
      · have hcl' : l.length < c := by omega
        have hcl2 : (l.length : Int) < c := by omega
        obtain ⟨v1, w1, hrun1, own1, g1⟩ := app_run (w := w) (base := w.heap.size) (v := .slice none 0 0) (xs := []) (l := l.take l.length) (c := c) (World.ownsRow_nil _ _ _ _) (rde_take hr l.length) (by rw [List.length_take]; simp; omega) (Nat.le_refl _)
        rw [show (l.take l.length).length = l.length by rw [List.length_take]; omega] at hrun1
        rw [List.nil_append] at own1
        have hv1 := below_none g1
        obtain ⟨v2, w2, hrun2, own2, g2⟩ := app_run (w := w1.alloc (.cells #[.string s] 9)) (l := [s]) (A := some ⟨w1.heap.size, 0, none⟩) (c := 1) (own1.alloc _) (RdE.bk (Bk.new _ _ _) rfl) (by rw [List.length_take]; simp; omega) (by have := hv1.size; simp; omega)
        have hv2 := Below.grown (Mw.bl_alloc hv1 _) g2 (by have := hv1.size; simp; omega) (fun q hq => by have := (own1.lt q hq).1; omega)
        have hr2 := hr.old hv2
        obtain ⟨v3, w3, hrun3, own3, g3⟩ := app_run (w := w2) (l := []) (A := some ⟨b, off + l.length, none⟩) (c := c - l.length) own2 (RdE.nil _ _ _) (by rw [List.length_append, List.length_take]; simp; omega) hv2.size
        have hv3 := Below.grown hv2 g3 hv2.size (fun q hq => by have := (own2.lt q hq).1; omega)
        rw [show ([] : List ByteArray).length = 0 by simp] at hrun3
        clear hr2 g1 g2 g3 hv1 hv2 own1 own2
        have Own3 := Lib.hid own3
        have Hv3 := Lib.hid hv3
        clear own3 hv3
        go_wp2_with (first | (at_builtin; refine wpList_append_run rfl (.tmp 34) (.tmp 37) 40 rfl (.slice none 0 0) (.slice (some ⟨b, off, none⟩) l.length c) rfl rfl v1 w1 (by exact hrun1) ?_; clear hrun1) | (at_builtin; refine wpList_append_run rfl (.tmp 39) (.tmp 41) 40 rfl v1 (.slice (some ⟨w1.heap.size, 0, none⟩) 1 1) rfl rfl v2 w2 (by exact hrun2) ?_; clear hrun2) | (at_builtin; refine wpList_append_run rfl (.tmp 43) (.tmp 46) 40 rfl v2 (.slice (some ⟨b, off + l.length, none⟩) (0) (c - l.length)) rfl rfl v3 w3 (by exact hrun3) ?_; clear hrun3))
        go_ret
        rw [Hj.out]
        exact ⟨v3, rfl, Sl.own Own3.out, Hv3.out⟩
set_option maxHeartbeats 2000000 in
theorem insert_nil (s : ByteArray) (w : World) : Calls Try.prog 39 #[.slice none 0 0, .string s] w (RetL [s] w) := by
  obtain ⟨i0, hi0, hz0, hz1, hz2⟩ := info_parts infoStr
  obtain ⟨v1, w1, hrun1, own1, g1⟩ := app_run (w := w) (base := w.heap.size) (v := .slice none 0 0) (xs := []) (l := []) (A := none) (c := 0) (World.ownsRow_nil _ _ _ _) (RdE.nil _ _ _) (by simp) (Nat.le_refl _)
  rw [List.nil_append] at own1
  have hv1 := below_none g1
  obtain ⟨v2, w2, hrun2, own2, g2⟩ := app_run (w := w1.alloc (.cells #[.string s] 9)) (l := [s]) (A := some ⟨w1.heap.size, 0, none⟩) (c := 1) (own1.alloc _) (RdE.bk (Bk.new _ _ _) rfl) (by simp) (by have := hv1.size; simp; omega)
  have hv2 := Below.grown (Mw.bl_alloc hv1 _) g2 (by have := hv1.size; simp; omega) (fun q hq => by have := (own1.lt q hq).1; omega)
  obtain ⟨v3, w3, hrun3, own3, g3⟩ := app_run (w := w2) (l := []) (A := none) (c := 0) own2 (RdE.nil _ _ _) (by simp) hv2.size
  have hv3 := Below.grown hv2 g3 hv2.size (fun q hq => by have := (own2.lt q hq).1; omega)
  rw [show ([] ++ [s] ++ [] : List ByteArray) = [s] from rfl] at own3
  clear g1 g2 g3 hv1 hv2 own1 own2
  have Own3 := Lib.hid own3
  have Hv3 := Lib.hid hv3
  clear own3 hv3
  go_enter Try.func39, Try.ntmps39
  go_wp2_with fail
  go_loop [5] (fun x => x = .int .i64 0) (fun x => 0)
  case atStart => rfl
  case round =>
    obtain rfl := hrel
    go_wp2_with (first | (at_builtin; refine wpList_append_run rfl (.tmp 34) (.tmp 37) 40 rfl (.slice none 0 0) (.slice none 0 0) rfl rfl v1 w1 (by exact hrun1) ?_; clear hrun1) | (at_builtin; refine wpList_append_run rfl (.tmp 39) (.tmp 41) 40 rfl v1 (.slice (some ⟨w1.heap.size, 0, none⟩) 1 1) rfl rfl v2 w2 (by exact hrun2) ?_; clear hrun2) | (at_builtin; refine wpList_append_run rfl (.tmp 43) (.tmp 46) 40 rfl v2 (.slice none 0 0) rfl rfl v3 w3 (by exact hrun3) ?_; clear hrun3))
    go_ret
    exact ⟨v3, rfl, Sl.own Own3.out, Hv3.out⟩
theorem insert_any (l : List ByteArray) (v : Value) (s : ByteArray) (w : World) (hl : l.length ≤ 1000) (hv : Sl w v l) : Calls Try.prog 39 #[v, .string s] w (RetL (ins l s) w) := by
  rcases hv with ⟨rfl, rfl⟩ | ⟨b, off, c, rfl, h2, h5, h3, h4⟩
  · exact insert_nil s w
  · exact insert_some l b off c s w hl h2 h5 h3 h4
end Go.Proofs.Ytpdekglmmgecmaa.Id
