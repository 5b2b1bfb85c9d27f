/- Plain law: a number in which two different digits have been exchanged has another check letter. And bytes of a slice. -/
import Derived.Test.YtpdekglmmgecmaaIM
import Derived.WalkKit
import Derived.WalkSpells
import Derived.WalkLawsBesides
import Derived.Deep.QuietTactic
import Derived.BigQuiet
import Derived.Deep.Draws
import Derived.Deep.AppendLies
import Derived.Laws.OwnMore
import Derived.Laws.BytesArg
import Derived.Lib.Hide
import Derived.Deep.LoopGhost
import Derived.Lib.ConvBytes
namespace Go.Proofs.Ytpdekglmmgecmaa.Id
open Go.RowKit
set_option linter.unusedSimpArgs false
set_option linter.unusedVariables false
set_option linter.unusedSimpArgs false

/-- Two places exchanged. -/
def swp (b : Nat → Int) (i k : Nat) : Nat → Int := fun j => if j = k then b i else if j = i then b k else b j
theorem swp_dig (b : Nat → Int) (i k : Nat) (hi : i < 8) (hk : k < 8) (h : Dig8 b) : Dig8 (swp b i k) := fun j hj => by
  unfold swp
  by_cases h1 : j = k
  · rw [if_pos h1]; exact h i hi
  · rw [if_neg h1]
    by_cases h2 : j = i
    · rw [if_pos h2]; exact h k hk
    · rw [if_neg h2]; exact h j hj
theorem let_inj' : ∀ a b : Fin 23, let_ ((a.val : Nat) : Int) = let_ ((b.val : Nat) : Int) → a = b := by decide +kernel
theorem let_inj (x y : Int) (hx : 0 ≤ x ∧ x < 23) (hy : 0 ≤ y ∧ y < 23) (h : let_ x = let_ y) : x = y := by
  obtain ⟨a, rfl⟩ := Int.eq_ofNat_of_zero_le hx.1
  obtain ⟨b, rfl⟩ := Int.eq_ofNat_of_zero_le hy.1
  have := let_inj' ⟨a, by omega⟩ ⟨b, by omega⟩ h
  simp at this
  rw [this]
theorem ltr_ne (a b : Nat → Int) (h : lsum a % 23 ≠ lsum b % 23) : ltr a ≠ ltr b := fun e => h (let_inj _ _ (by omega) (by omega) e)
set_option maxHeartbeats 8000000 in
theorem swap_ne (b : Nat → Int) (i k : Nat) (hi : i < 8) (hk : k < 8) (h : Dig8 b) (hne : b i ≠ b k) : lsum (swp b i k) % 23 ≠ lsum b % 23 := by
  rw [lsum_dig _ (swp_dig b i k hi hk h), lsum_dig _ h]
  have h0 := h 0 (by omega); have h1 := h 1 (by omega); have h2 := h 2 (by omega); have h3 := h 3 (by omega)
  have h4 := h 4 (by omega); have h5 := h 5 (by omega); have h6 := h 6 (by omega); have h7 := h 7 (by omega)
  have ei : i = 0 ∨ i = 1 ∨ i = 2 ∨ i = 3 ∨ i = 4 ∨ i = 5 ∨ i = 6 ∨ i = 7 := by omega
  have ek : k = 0 ∨ k = 1 ∨ k = 2 ∨ k = 3 ∨ k = 4 ∨ k = 5 ∨ k = 6 ∨ k = 7 := by omega
  clear h
  rcases ei with h | h | h | h | h | h | h | h <;> subst h <;> rcases ek with h | h | h | h | h | h | h | h <;> subst h <;> simp [swp] at hne ⊢ <;> omega

/-- The first bytes of a block are f, and may be written. -/
def CellsF (w : World) (g n : Nat) (f : Nat → Int) : Prop := ∀ j, j < n → w.cell? ⟨g, j, none⟩ = some (.int .u8 (f j)) ∧ w.frozen? ⟨g, j, none⟩ = false
theorem CellsF.set {w : World} {g n : Nat} {f : Nat → Int} (h : CellsF w g n f) (i : Nat) (v : Int) : CellsF (w.setCell ⟨g, i, none⟩ (.int .u8 v)) g n (fun j => if j = i then v else f j) := fun j hj => by
  obtain ⟨h1, h2⟩ := h j hj
  refine ⟨?_, by rw [World.frozen?_setCell]; exact h2⟩
  by_cases e : j = i
  · subst e
    simp only [if_true]
    exact World.cell?_setCell_same _ _ _ h1
  · simp only [if_neg e]
    rw [World.cell?_setCell_other _ _ _ _ (fun h => e (congrArg Addr.off h).symm)]
    exact h1
theorem CellsF.below {w w' : World} {g n B : Nat} {f : Nat → Int} (h : CellsF w g n f) (hb : Below B w w') (hg : g < B) : CellsF w' g n f := fun j hj => by
  obtain ⟨h1, h2⟩ := h j hj
  exact ⟨(hb.cell (p := ⟨g, j, none⟩) hg).trans h1, (hb.frozen (p := ⟨g, j, none⟩) hg).trans h2⟩
theorem CellsF.blk9 {w : World} {g : Nat} {f : Nat → Int} (h : CellsF w g 9 f) : Blk9 w g f :=
  ⟨(h 0 (by omega)).1, (h 1 (by omega)).1, (h 2 (by omega)).1, (h 3 (by omega)).1, (h 4 (by omega)).1, (h 5 (by omega)).1, (h 6 (by omega)).1, (h 7 (by omega)).1, (h 8 (by omega)).1⟩
theorem conv9' (W : World) (g cap : Nat) (b : Nat → Int) (h : Blk9 W g b) : (convert 34 9 (.slice (some ⟨g, 0, none⟩) 9 cap)).run Try.prog W = .ok (.string (strOfNums [b 0, b 1, b 2, b 3, b 4, b 5, b 6, b 7, b 8])) W := by
  obtain ⟨c0, c1, c2, c3, c4, c5, c6, c7, c8⟩ := h
  refine run_convert_bytes_arg (P := Try.prog) W 34 5 Try.underlying34 Try.underlying5 g 0 9 cap _ rfl (fun i hi => ?_) 9 Try.underlying9
  rw [Nat.zero_add]
  have : i = 0 ∨ i = 1 ∨ i = 2 ∨ i = 3 ∨ i = 4 ∨ i = 5 ∨ i = 6 ∨ i = 7 ∨ i = 8 := by omega
  rcases this with h | h | h | h | h | h | h | h | h <;> subst h <;> assumption
/-- A text as a slice of bytes. -/
theorem bytes_of (W : World) (s : ByteArray) : ∃ cap W', (convert 9 34 (.string s)).run Try.prog W = .ok (.slice (some ⟨W.heap.size, 0, none⟩) s.size cap) W' ∧ Below W.heap.size W W' ∧ W.heap.size < W'.heap.size ∧ s.size ≤ cap ∧ CellsF W' W.heap.size s.size (byt s) := by
  have h := Lib.run_convert_string_bytes (P := Try.prog) W 9 34 5 s Try.underlying9 Try.underlying34 Try.underlying5
  refine ⟨_, _, h, ?_, ?_, grownCap_ge _ _ _ _, fun j hj => ⟨?_, ?_⟩⟩
  · exact ⟨rfl, rfl, rfl, by rw [Lib.bytesWorld_size]; omega, fun i hi => Lib.bytesWorld_at_old W _ s i hi⟩
  · rw [Lib.bytesWorld_size]; omega
  · exact Lib.bytesWorld_cell W _ s j hj
  · simp only [World.frozen?, Lib.bytesWorld_at_new]
    have hz : j < (Lib.bytesCells W 5 s).size := by simp [Lib.bytesCells]; omega
    simp; omega
theorem td_I64 (n c : Int) (h0 : -9223372036854775808 ≤ n) (h1 : n ≤ 9223372036854775807) (hc : 1 ≤ c) : -9223372036854775808 ≤ n.tdiv c ∧ n.tdiv c ≤ 9223372036854775807 := by
  rw [tdiv_eq_if]
  split
  · rename_i hx; have := IntWalk.tdiv_le n c hx hc; omega
  · rename_i hx; have := IntWalk.tdiv_le (-n) c (by omega) hc; omega

/-- What Parse says of a text of nine bytes with digits, a letter, and not the right one. -/
theorem pe_letter (s : ByteArray) (hl : s.size = 9) (hD : Dig8 (byt s)) (h8 : letB (byt s 8) = true) (hne : ltr (byt s) ≠ byt s 8) : pe s = 24 := by
  unfold pe
  rw [if_pos ((shp_iff s).2 ⟨hl, form_of _ hD h8⟩), if_neg hne]
theorem byt_nine (b : Nat → Int) (hb : ∀ i, i < 9 → 0 ≤ b i ∧ b i ≤ 255) (i : Nat) (h : i < 9) : byt (strOfNums [b 0, b 1, b 2, b 3, b 4, b 5, b 6, b 7, b 8]) i = b i := by
  have e : ([b 0, b 1, b 2, b 3, b 4, b 5, b 6, b 7, b 8] : List Int)[i]'(by show i < 9; omega) = b i := by
    have : i = 0 ∨ i = 1 ∨ i = 2 ∨ i = 3 ∨ i = 4 ∨ i = 5 ∨ i = 6 ∨ i = 7 ∨ i = 8 := by omega
    rcases this with h | h | h | h | h | h | h | h | h <;> subst h <;> rfl
  rw [byt_list _ i (by show i < 9; omega) (by rw [e]; exact hb i h), e]
theorem swap_pe (m : Int) (i k : Nat) (hi : i < 8) (hk : k < 8) (hne : byt (fmtS m) i ≠ byt (fmtS m) k) (c : Nat → Int) (hc : ∀ j, j < 9 → c j = swp (byt (fmtS m)) i k j) :
    pe (strOfNums [c 0, c 1, c 2, c 3, c 4, c 5, c 6, c 7, c 8]) = 24 := by
  have hD : Dig8 (byt (fmtS m)) := dig_congr _ _ (fun i h => byt_fmt m i h) (dig_fb m)
  have hbd : ∀ j, j < 9 → 0 ≤ c j ∧ c j ≤ 255 := fun j hj => by
    rw [hc j hj]
    unfold swp
    split
    · exact byt_bd _ _
    · split <;> exact byt_bd _ _
  have e : ∀ j, j < 9 → byt (strOfNums [c 0, c 1, c 2, c 3, c 4, c 5, c 6, c 7, c 8]) j = swp (byt (fmtS m)) i k j := fun j hj => by rw [byt_nine c hbd j hj, hc j hj]
  have e8 : byt (strOfNums [c 0, c 1, c 2, c 3, c 4, c 5, c 6, c 7, c 8]) 8 = ltr (fb m) := by
    rw [e 8 (by omega)]
    unfold swp
    rw [if_neg (by omega), if_neg (by omega), byt_fmt8]
  refine pe_letter _ (by rw [strOfNums_size]; rfl) (dig_congr _ _ (fun j h => e j (by omega)) (swp_dig _ i k hi hk hD)) (by rw [e8]; exact letB_ltr _) ?_
  rw [e8, ltr_congr _ _ (fun j h => e j (by omega)), ← ltr_congr _ _ (fun i h => byt_fmt m i h)]
  exact ltr_ne _ _ (swap_ne _ i k hi hk hD hne)
end Go.Proofs.Ytpdekglmmgecmaa.Id
