/- Walks: Cut; bytes and letters of candidate numbers. -/
import Derived.Test.YtpdekglmmgecmaaRows
import Derived.Test.YtpdekglmmgecmaaIA
import Derived.WalkKit
import Derived.WalkSpells
import Derived.WalkLawsBesides
import Derived.Deep.QuietTactic
import Derived.BigQuiet
import Derived.Deep.Draws
import Derived.Deep.AppendLies
import Derived.Laws.OwnMore
import Derived.Laws.BytesArg
import Derived.Lib.Hide
import Derived.Deep.LoopGhost
import Derived.LoopN
import Derived.Lib.BufferWrite
namespace Go.Proofs.Ytpdekglmmgecmaa.Id
open Go.RowKit

theorem tmod_neg (x n : Int) (hx : x < 0) (h0 : 1 ≤ n) : -n < x.tmod n ∧ x.tmod n ≤ 0 ∧ (x.tmod n < 0 → x.tmod n + n = x % n) ∧ (0 ≤ x.tmod n → x.tmod n = x % n) := by
  have hb := Int.emod_nonneg x (show n ≠ 0 by omega)
  have hc := Int.emod_lt_of_pos x (show 0 < n by omega)
  rw [Int.tmod_eq_emod]
  by_cases h : n ∣ x
  · rw [if_pos (.inr h)]
    have := Int.emod_eq_zero_of_dvd h
    omega
  · rw [if_neg (by omega)]
    have : x % n ≠ 0 := fun e => h (Int.dvd_of_emod_eq_zero e)
    omega

set_option maxHeartbeats 400000 in
theorem cut_any (x n : Int) (h0 : 1 ≤ n) (h1 : n ≤ 1000000000000) (hx0 : -9223372036854775808 ≤ x) (hx1 : x ≤ 9223372036854775807) (w : World) :
    Calls Try.prog 12 #[.int .i64 x, .int .i64 n] w fun e w' => e = .returned (.int .i64 (x % n)) ∧ w = w' := by
  have hb := Int.emod_nonneg x (show n ≠ 0 by omega)
  have hc := Int.emod_lt_of_pos x (show 0 < n by omega)
  by_cases hx : 0 ≤ x
  · have e : x.tmod n = x % n := Int.tmod_eq_emod_of_nonneg hx
    go_enter Try.func12, Try.ntmps12
    go_wp2
    go_ret
    exact ⟨rfl, rfl⟩
  · obtain ⟨a1, a2, a3, a4⟩ := tmod_neg x n (by omega) h0
    have A3 := Lib.hid a3
    have A4 := Lib.hid a4
    clear a3 a4
    by_cases hn : x.tmod n < 0
    · go_enter Try.func12, Try.ntmps12
      go_wp2
      go_ret
      exact ⟨by rw [← A3.out hn]; rfl, rfl⟩
    · go_enter Try.func12, Try.ntmps12
      go_wp2
      go_ret
      exact ⟨by rw [← A4.out (by omega)]; rfl, rfl⟩

set_option maxHeartbeats 400000 in
theorem letter_any (b : Nat → Int) (w : World) :
    Calls Try.prog 28 #[wv b] w fun e w' => e = .returned (.int .u8 (ltr b)) ∧ Below w.heap.size w w' := by
  go_enter Try.func28, Try.ntmps28
  go_wp2_with fail
  refine wp_loop_rounds 9 ?_
  iterate 9 (rw [rounds_succ]; go_wp2_with fail)
  rename_i hh
  go_ret
  refine ⟨?_, by (repeat (first | with_reducible exact Below.refl _ _ | with_reducible refine bl_drewN ?_ _ | with_reducible refine Below.drew ?_ | with_reducible refine bl_alloc ?_ _ | with_reducible refine Below.alloc ?_ (by first | omega | (simp; done) | (simp; omega)) _ | with_reducible refine Below.setCell ?_ (by first | omega | (simp; done) | (simp; omega)) _ | with_reducible assumption))⟩
  have := letlook (lsum b % 23) hh.1 hh.2 (show _ < 23 by unfold lsum d8; omega)
  unfold ltr
  rw [← this]
  rfl

theorem info8 : (Try.prog.info? 5).map (·.size) = some 1 := by kernel_rfl
theorem copy9 (W : World) (g : Nat) (hg : g = W.heap.size) (cur : Array Value) (hcur : cur.size = 9) (T : TypeId) (s : ByteArray) (hs : s.size = 9) :
    (Builtin.copy_ #[34, 9] 3 #[.slice (some ⟨g, 0, none⟩) 9 9, .string s]).run Try.prog (W.alloc (.cells cur T)) = .ok (.int .i64 9) (W.alloc (.cells (wc (byt s)) T)) := by
  subst hg
  have h := Lib.run_copy_row_string (P := Try.prog) (W.alloc (.cells cur T)) 34 9 3 5 W.heap.size 0 9 9 s cur T Try.underlying34 info8 (heap_alloc_new W _) (by omega) (by omega)
  rw [h, setRow_alloc, hs]
  have e : (cur.toList.take 0 ++ Lib.byteCells s.data.toList ++ cur.toList.drop (0 + 9)).toArray = wc (byt s) := by
    rw [List.take_zero, List.nil_append, List.drop_eq_nil_of_le (by simp [hcur]), List.append_nil]
    have : s.data.toList.length = 9 := by simpa using hs
    have h9 := list9 s.data.toList this
    unfold Lib.byteCells
    rw [h9]
    rfl
  rw [e]
  rfl

set_option maxHeartbeats 400000 in
theorem wordOf_yes (s : ByteArray) (hl : s.size = 9) (w : World) :
    Calls Try.prog 30 #[.string s] w fun e w' => e = .returned (.tuple #[wv (byt s), .bool true]) ∧ Below w.heap.size w w' := by
  have hcp := copy9 (w.alloc (.cells (wc fun _ => 0) 43)) (w.heap.size + 1) (by simp) (wc fun _ => 0) rfl 43 s hl
  go_enter Try.func30, Try.ntmps30
  go_wp2_with fail
  refine bodyPost_ret (v := .tuple #[wv (byt s), .bool true]) (by simp [results, Try.results30, go_sem]) rfl ⟨rfl, ?_⟩
  (repeat (first | with_reducible exact Below.refl _ _ | with_reducible refine bl_drewN ?_ _ | with_reducible refine Below.drew ?_ | with_reducible refine bl_alloc ?_ _ | with_reducible refine Below.alloc ?_ (by first | omega | (simp; done) | (simp; omega)) _ | with_reducible refine Below.setCell ?_ (by first | omega | (simp; done) | (simp; omega)) _ | with_reducible assumption))

set_option maxHeartbeats 400000 in
theorem wordOf_no (s : ByteArray) (_hs : s.size ≤ maxLen) (hl : s.size ≠ 9) (w : World) :
    Calls Try.prog 30 #[.string s] w fun e w' => e = .returned (.tuple #[wv fun _ => 0, .bool false]) ∧ Below w.heap.size w w' := by
  unfold maxLen at _hs
  go_enter Try.func30, Try.ntmps30
  go_wp2_with fail
  refine bodyPost_ret (v := .tuple #[wv fun _ => 0, .bool false]) (by simp [results, Try.results30, go_sem]) rfl ⟨rfl, ?_⟩
  (repeat (first | with_reducible exact Below.refl _ _ | with_reducible refine bl_drewN ?_ _ | with_reducible refine Below.drew ?_ | with_reducible refine bl_alloc ?_ _ | with_reducible refine Below.alloc ?_ (by first | omega | (simp; done) | (simp; omega)) _ | with_reducible refine Below.setCell ?_ (by first | omega | (simp; done) | (simp; omega)) _ | with_reducible assumption))
end Go.Proofs.Ytpdekglmmgecmaa.Id
