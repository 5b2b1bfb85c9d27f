/- Walks: words off the tape. -/
import Derived.Test.YthjaomnmgggjbaaTU
import Derived.WalkKit
import Derived.WalkSpells
import Derived.WalkLawsBesides
import Derived.Deep.QuietTactic
import Derived.BigQuiet
import Derived.Deep.Draws
import Derived.Deep.AppendLies
import Derived.Laws.OwnMore
import Derived.Laws.BytesArg
import Derived.Lib.Hide
import Derived.Deep.LoopGhost
namespace Go.Proofs.Ythjaomnmgggjbaa.Tm
open Go.RowKit Go.Proofs.Ythjaomnmgggjbaa.Mw
set_option linter.unusedVariables false

/-- A text of letters from a to c, of at most n bytes. -/
def Abc (s : ByteArray) (n : Nat) : Prop := s.size ≤ n ∧ ∀ i, i < s.size → 97 ≤ byt s i ∧ byt s i ≤ 99
def TW (n : Nat) (tp : Nat) (w : World) (e : Ending) (w' : World) : Prop := ∃ s : ByteArray, Abc s n ∧ e = .returned (.string s) ∧ Tp w' tp ∧ w.grownBy w' (some tp)
theorem byt_app_lt (s t : ByteArray) (i : Nat) (h : i < s.size) : byt (s ++ t) i = byt s i := by
  unfold byt
  rw [ByteArray.data_append, Array.toList_append, List.getD_eq_getElem?_getD, List.getD_eq_getElem?_getD, List.getElem?_append_left (by simpa using h)]
theorem byt_app_ge (s t : ByteArray) (i : Nat) (h : s.size ≤ i) : byt (s ++ t) i = byt t (i - s.size) := by
  unfold byt
  rw [ByteArray.data_append, Array.toList_append, List.getD_eq_getElem?_getD, List.getD_eq_getElem?_getD, List.getElem?_append_right (by simpa using h)]
  simp
theorem byt_one (x : Int) (h0 : 0 ≤ x) (h1 : x < 256) : byt (strOfNums [x]) 0 = x := by
  unfold byt
  rw [strOfNums_data]
  simp [UInt8.toNat_ofNat']
  omega
theorem abc_snoc {s : ByteArray} {n : Nat} (h : Abc s n) (x : Int) (h0 : 97 ≤ x) (h1 : x ≤ 99) : Abc (s ++ strOfNums [x]) (n + 1) := by
  obtain ⟨ha, hb⟩ := h
  have e : (strOfNums [x]).size = 1 := by rw [strOfNums_size]; rfl
  refine ⟨by rw [ByteArray.size_append, e]; omega, fun i hi => ?_⟩
  rw [ByteArray.size_append, e] at hi
  by_cases hi' : i < s.size
  · rw [byt_app_lt _ _ _ hi']; exact hb i hi'
  · rw [byt_app_ge _ _ _ (by omega), show i - s.size = 0 by omega, byt_one _ (by omega) (by omega)]
    exact ⟨h0, h1⟩
theorem abc_nil : Abc ⟨#[]⟩ 0 := ⟨by decide, fun i hi => absurd hi (by show ¬ i < 0; omega)⟩
theorem abc_mono {s : ByteArray} {n m : Nat} (h : Abc s n) (hm : n ≤ m) : Abc s m := ⟨by have := h.1; omega, h.2⟩

set_option maxHeartbeats 400000 in
theorem word_any (tp : Nat) (m : Nat) (w : World) (ht : Tp w tp) (h1 : 1 ≤ m) (h2 : m ≤ 100) :
    Calls Try.prog 36 #[.pointer (some ⟨tp, 0, none⟩), .int .i64 m] w (TW m tp w) := by
  go_enter Try.func36, Try.ntmps36
  go_wp2_with fail
  refine (range_any tp 1 m _ ht (by omega) (by omega) (by omega)).mono ?_
  rintro e w1 ⟨x, hx, rfl, ht1, hg1⟩
  obtain ⟨n, rfl⟩ := Int.eq_ofNat_of_zero_le (show 0 ≤ x by omega)
  obtain ⟨hx0, hx1⟩ := hx
  go_wp2_with fail
  go_loopw [5, 6] (fun v j wr => ∃ (s : ByteArray) (k : Nat), k ≤ n ∧ v = .string s ∧ j = .int .i64 k ∧ Abc s (n - k) ∧ Tp wr tp ∧ w.grownBy wr (some tp)) (fun _ j _ => (intOf j).toNat)
  case atStart => exact ⟨⟨#[]⟩, n, by omega, rfl, rfl, abc_mono abc_nil (by omega), ht1, hg1⟩
  case round =>
    clear ht1 hg1
    obtain ⟨s, k, hk, rfl, rfl, hs, ht2, hg2⟩ := hrel
    have hsz := hs.1
    by_cases hk0 : 0 < k
    · have hk0' : (0 : Int) < k := by omega
      go_wp2_with fail
      refine (next_any tp 3 _ ht2 (by omega) (by omega)).mono ?_
      rintro e w3 ⟨y, hy, rfl, ht3, hg3⟩
      obtain ⟨hy0, hy1⟩ := hy
      have hcv := run_convert_bytes_arg (P := Try.prog) (w3.alloc (.cells #[.int .u8 (97 + y)] 5)) 64 5 Try.underlying64 Try.underlying5 w3.heap.size 0 1 1 [97 + y] rfl (fun i hi => by
        obtain rfl : i = 0 := by omega
        rw [World.cell?_alloc_at _ _ _ _ rfl]
        rfl) 9 Try.underlying9
      have hs1 : (strOfNums [97 + y]).size ≤ 1 := by rw [strOfNums_size]; simp
      go_wp2_with fail
      go_roundw
      case rel => exact ⟨s ++ strOfNums [97 + y], k - 1, by omega, rfl, by go_num, abc_mono (abc_snoc hs (97 + y) (by omega) (by omega)) (by omega), ht3.alloc _, gb_alloc (gb_trans hg2 hg3) _⟩
      case measure => simp [intOf]; omega
    · go_wp2_with fail
      go_ret
      exact ⟨s, abc_mono hs (by omega), rfl, ht2, hg2⟩
end Go.Proofs.Ythjaomnmgggjbaa.Tm
