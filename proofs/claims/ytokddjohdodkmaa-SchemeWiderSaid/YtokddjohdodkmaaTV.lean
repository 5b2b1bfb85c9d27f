/- Walks: words off the tape. -/
import Derived.Test.YtokddjohdodkmaaTU
import Derived.WalkKit
import Derived.WalkSpells
import Derived.WalkLawsBesides
import Derived.Deep.QuietTactic
import Derived.BigQuiet
import Derived.Deep.Draws
import Derived.Deep.AppendLies
import Derived.Laws.OwnMore
import Derived.Laws.BytesArg
import Derived.Lib.Hide
import Derived.Deep.LoopGhost
namespace Go.Proofs.Ytokddjohdodkmaa.Tm
open Go.RowKit Go.Proofs.Ytokddjohdodkmaa.Mw
set_option linter.unusedVariables false
set_option linter.unusedSimpArgs false

/-- A text of letters from a to c, of at most n bytes. -/
def Abc (s : ByteArray) (n : Nat) : Prop := s.size ≤ n ∧ ∀ i, i < s.size → 97 ≤ byt s i ∧ byt s i ≤ 99
def TW (n : Nat) (tp : Nat) (w : World) (e : Ending) (w' : World) : Prop := ∃ s : ByteArray, Abc s n ∧ e = .returned (.string s) ∧ Tp w' tp ∧ w.grownBy w' (some tp)
theorem byt_app_lt (s t : ByteArray) (i : Nat) (h : i < s.size) : byt (s ++ t) i = byt s i := by
  unfold byt
  rw [ByteArray.data_append, Array.toList_append, List.getD_eq_getElem?_getD, List.getD_eq_getElem?_getD, List.getElem?_append_left (by simpa using h)]
theorem byt_app_ge (s t : ByteArray) (i : Nat) (h : s.size ≤ i) : byt (s ++ t) i = byt t (i - s.size) := by
  unfold byt
  rw [ByteArray.data_append, Array.toList_append, List.getD_eq_getElem?_getD, List.getD_eq_getElem?_getD, List.getElem?_append_right (by simpa using h)]
  simp
theorem byt_one (x : Int) (h0 : 0 ≤ x) (h1 : x < 256) : byt (strOfNums [x]) 0 = x := by
  unfold byt
  rw [strOfNums_data]
  simp [UInt8.toNat_ofNat']
  omega
theorem abc_snoc {s : ByteArray} {n : Nat} (h : Abc s n) (x : Int) (h0 : 97 ≤ x) (h1 : x ≤ 99) : Abc (s ++ strOfNums [x]) (n + 1) := by
  obtain ⟨ha, hb⟩ := h
  have e : (strOfNums [x]).size = 1 := by rw [strOfNums_size]; rfl
  refine ⟨by rw [ByteArray.size_append, e]; omega, fun i hi => ?_⟩
  rw [ByteArray.size_append, e] at hi
  by_cases hi' : i < s.size
  · rw [byt_app_lt _ _ _ hi']; exact hb i hi'
  · rw [byt_app_ge _ _ _ (by omega), show i - s.size = 0 by omega, byt_one _ (by omega) (by omega)]
    exact ⟨h0, h1⟩
theorem abc_nil : Abc ⟨#[]⟩ 0 := ⟨by decide, fun i hi => absurd hi (by show ¬ i < 0; omega)⟩
theorem abc_mono {s : ByteArray} {n m : Nat} (h : Abc s n) (hm : n ≤ m) : Abc s m := ⟨by have := h.1; omega, h.2⟩

end Go.Proofs.Ytokddjohdodkmaa.Tm
