/- Walks: Format and Letter of the program. -/
import Derived.Test.YtpdekglmmgecmaaID
import Derived.WalkKit
import Derived.WalkSpells
import Derived.WalkLawsBesides
import Derived.Deep.QuietTactic
import Derived.BigQuiet
import Derived.Deep.Draws
import Derived.Deep.AppendLies
import Derived.Laws.OwnMore
import Derived.Laws.BytesArg
import Derived.Lib.Hide
import Derived.Deep.LoopGhost
import Derived.LoopN
namespace Go.Proofs.Ytpdekglmmgecmaa.Id
open Go.RowKit
set_option linter.unusedSimpArgs false

set_option maxHeartbeats 400000 in
theorem format_no (c y k : Int) (h : vldB c y k = false) (w : World) :
    Calls Try.prog 13 #[idv c y k] w fun e w' => e = .returned (.tuple #[.string ⟨#[]⟩, .int .i64 2]) ∧ Below w.heap.size w w' := by
  go_enter Try.func13, Try.ntmps13
  go_wp2_with fail
  refine (valid_any c y k _).mono ?_
  rintro e w1 ⟨rfl, hb1⟩
  have hc1 : Below w.heap.size w w1 := Below.trans (by (repeat (first | with_reducible exact Below.refl _ _ | with_reducible refine bl_drewN ?_ _ | with_reducible refine Below.drew ?_ | with_reducible refine bl_alloc ?_ _ | with_reducible refine Below.alloc ?_ (by first | omega | (simp; done) | (simp; omega)) _ | with_reducible refine Below.setCell ?_ (by first | omega | (simp; done) | (simp; omega)) _ | with_reducible assumption))) (hb1.mono (by simp))
  go_wp2_with fail
  go_ret2
  exact ⟨rfl, hc1⟩

/-- The digits of a number of eight digits, as bytes. -/
def fb (N : Int) : Nat → Int
  | 0 => 48 + N / 10 / 10 / 10 / 10 / 10 / 10 / 10 % 10
  | 1 => 48 + N / 10 / 10 / 10 / 10 / 10 / 10 % 10
  | 2 => 48 + N / 10 / 10 / 10 / 10 / 10 % 10
  | 3 => 48 + N / 10 / 10 / 10 / 10 % 10
  | 4 => 48 + N / 10 / 10 / 10 % 10
  | 5 => 48 + N / 10 / 10 % 10
  | 6 => 48 + N / 10 % 10
  | 7 => 48 + N % 10
  | _ => 0
/-- The candidate number, as bytes. -/
def fmtL (N : Int) : List Int := [fb N 0, fb N 1, fb N 2, fb N 3, fb N 4, fb N 5, fb N 6, fb N 7, ltr (fb N)]
def fmtS (N : Int) : ByteArray := strOfNums (fmtL N)

/-- string(w[:]) of nine bytes in a block. -/
theorem conv9 (W : World) (g : Nat) (b : Nat → Int) (h : Blk9 W g b) : (convert 34 9 (.slice (some ⟨g, 0, none⟩) 9 9)).run Try.prog W = .ok (.string (strOfNums [b 0, b 1, b 2, b 3, b 4, b 5, b 6, b 7, b 8])) W := by
  obtain ⟨c0, c1, c2, c3, c4, c5, c6, c7, c8⟩ := h
  refine run_convert_bytes_arg (P := Try.prog) W 34 5 Try.underlying34 Try.underlying5 g 0 9 9 _ rfl (fun i hi => ?_) 9 Try.underlying9
  rw [Nat.zero_add]
  have : i = 0 ∨ i = 1 ∨ i = 2 ∨ i = 3 ∨ i = 4 ∨ i = 5 ∨ i = 6 ∨ i = 7 ∨ i = 8 := by omega
  rcases this with h | h | h | h | h | h | h | h | h <;> subst h <;> assumption

theorem Blk9.set8 {w : World} {g : Nat} {b : Nat → Int} (h : Blk9 w g b) (v : Int) : Blk9 (w.setCell ⟨g, 8, none⟩ (.int .u8 v)) g (fun i => if i = 8 then v else b i) := by
  obtain ⟨c0, c1, c2, c3, c4, c5, c6, c7, c8⟩ := h
  exact ⟨(World.cell?_setCell_other _ _ _ _ (by simp)).trans c0, (World.cell?_setCell_other _ _ _ _ (by simp)).trans c1, (World.cell?_setCell_other _ _ _ _ (by simp)).trans c2, (World.cell?_setCell_other _ _ _ _ (by simp)).trans c3, (World.cell?_setCell_other _ _ _ _ (by simp)).trans c4, (World.cell?_setCell_other _ _ _ _ (by simp)).trans c5, (World.cell?_setCell_other _ _ _ _ (by simp)).trans c6, (World.cell?_setCell_other _ _ _ _ (by simp)).trans c7, World.cell?_setCell_same _ _ _ c8⟩

set_option maxHeartbeats 1000000 in
theorem format_yes (c y k : Int) (h : vldB c y k = true) (w : World) :
    Calls Try.prog 13 #[idv c y k] w fun e w' => e = .returned (.tuple #[.string (fmtS ((c * 100 + y) * 100 * 100 + k)), .int .i64 0]) ∧ Below w.heap.size w w' := by
  have hv : 0 ≤ c ∧ c ≤ 99 ∧ 0 ≤ y ∧ y ≤ 99 ∧ 0 ≤ k ∧ k ≤ 9999 := by simpa [vldB] using h
  obtain ⟨v1, v2, v3, v4, v5, v6⟩ := hv
  go_enter Try.func13, Try.ntmps13
  go_wp2_with fail
  refine (valid_any c y k _).mono ?_
  rintro e w1 ⟨rfl, hb1⟩
  obtain ⟨z0, z1, z2, y0, y1, y2⟩ : Blk3 w1 w.heap.size c y k := Blk3.below (by unfold Blk3; go_simp) hb1 (by simp)
  have hs1 : w.heap.size < w1.heap.size := by have := hb1.size; simp at this; omega
  have hc1 : Below w.heap.size w w1 := Below.trans (by (repeat (first | with_reducible exact Below.refl _ _ | with_reducible refine bl_drewN ?_ _ | with_reducible refine Below.drew ?_ | with_reducible refine bl_alloc ?_ _ | with_reducible refine Below.alloc ?_ (by first | omega | (simp; done) | (simp; omega)) _ | with_reducible refine Below.setCell ?_ (by first | omega | (simp; done) | (simp; omega)) _ | with_reducible assumption))) (hb1.mono (by simp))
  clear hb1
  go_wp2_with fail
  refine wp_loop_rounds 9 ?_
  iterate 9 (rw [rounds_succ]; go_wp2_with fail)
  refine (letter_any (fb ((c * 100 + y) * 100 * 100 + k)) _).mono ?_
  rintro e w2 ⟨rfl, hb2⟩
  have hB2 : Blk9 w2 w1.heap.size (fb ((c * 100 + y) * 100 * 100 + k)) := by
    refine Blk9.below ?_ hb2 (by simp)
    unfold Blk9 fb; go_simp
  have hf2 : w2.frozen? ⟨w1.heap.size, 8, none⟩ = false := by
    rw [hb2.frozen (p := ⟨w1.heap.size, 8, none⟩) (by simp)]; go_simp
  have hc8 := hB2.2.2.2.2.2.2.2.2
  have hcv : (convert 34 9 (.slice (some ⟨w1.heap.size, 0, none⟩) 9 9)).run Try.prog (w2.setCell ⟨w1.heap.size, 8, none⟩ (.int .u8 (ltr (fb ((c * 100 + y) * 100 * 100 + k))))) = .ok (.string (fmtS ((c * 100 + y) * 100 * 100 + k))) (w2.setCell ⟨w1.heap.size, 8, none⟩ (.int .u8 (ltr (fb ((c * 100 + y) * 100 * 100 + k))))) := conv9 _ _ _ (hB2.set8 (ltr (fb ((c * 100 + y) * 100 * 100 + k))))
  have hc2 : Below w.heap.size w w2 := Below.trans (hc1.alloc hc1.size _) (hb2.mono (by have := hc1.size; simp; omega))
  clear hb2 hB2
  go_wp2_with fail
  go_ret2
  refine ⟨rfl, ?_⟩
  (repeat (first | with_reducible exact Below.refl _ _ | with_reducible refine bl_drewN ?_ _ | with_reducible refine Below.drew ?_ | with_reducible refine bl_alloc ?_ _ | with_reducible refine Below.alloc ?_ (by first | omega | (simp; done) | (simp; omega)) _ | with_reducible refine Below.setCell ?_ (by first | omega | (simp; done) | (simp; omega)) _ | with_reducible assumption))
end Go.Proofs.Ytpdekglmmgecmaa.Id
