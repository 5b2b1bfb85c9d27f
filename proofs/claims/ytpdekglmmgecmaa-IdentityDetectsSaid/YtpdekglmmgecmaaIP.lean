/- Plain law: Format and Parse are inverse. No walk. -/
import Derived.Test.YtpdekglmmgecmaaIH
namespace Go.Proofs.Ytpdekglmmgecmaa.Id
open Go.RowKit

theorem d8_dig (c : Int) (h : 48 ≤ c ∧ c ≤ 57) : d8 c = c - 48 := by unfold d8; omega
theorem pnum_dig (b : Nat → Int) (h : Dig8 b) : pnum b = ((((((((b 0 - 48) * 10 + (b 1 - 48)) * 10 + (b 2 - 48)) * 10 + (b 3 - 48)) * 10 + (b 4 - 48)) * 10 + (b 5 - 48)) * 10 + (b 6 - 48)) * 10 + (b 7 - 48)) := by
  unfold pnum
  rw [d8_dig _ (h 0 (by omega)), d8_dig _ (h 1 (by omega)), d8_dig _ (h 2 (by omega)), d8_dig _ (h 3 (by omega)), d8_dig _ (h 4 (by omega)), d8_dig _ (h 5 (by omega)), d8_dig _ (h 6 (by omega)), d8_dig _ (h 7 (by omega))]
theorem pnum_bd (b : Nat → Int) (h : Dig8 b) : 0 ≤ pnum b ∧ pnum b < 100000000 := by
  rw [pnum_dig b h]
  have h0 := h 0 (by omega); have h1 := h 1 (by omega); have h2 := h 2 (by omega); have h3 := h 3 (by omega)
  have h4 := h 4 (by omega); have h5 := h 5 (by omega); have h6 := h 6 (by omega); have h7 := h 7 (by omega)
  omega
theorem div10 (a d : Int) (h : 0 ≤ d ∧ d ≤ 9) : (a * 10 + d) / 10 = a ∧ (a * 10 + d) % 10 = d := by omega
theorem fb_pnum (b : Nat → Int) (h : Dig8 b) (i : Nat) (hi : i < 8) : fb (pnum b) i = b i := by
  have h0 := h 0 (by omega); have h1 := h 1 (by omega); have h2 := h 2 (by omega); have h3 := h 3 (by omega)
  have h4 := h 4 (by omega); have h5 := h 5 (by omega); have h6 := h 6 (by omega); have h7 := h 7 (by omega)
  rw [pnum_dig b h]
  have e7 := div10 ((((((((b 0 - 48) * 10 + (b 1 - 48)) * 10 + (b 2 - 48)) * 10 + (b 3 - 48)) * 10 + (b 4 - 48)) * 10 + (b 5 - 48)) * 10 + (b 6 - 48))) (b 7 - 48) (by omega)
  have e6 := div10 (((((((b 0 - 48) * 10 + (b 1 - 48)) * 10 + (b 2 - 48)) * 10 + (b 3 - 48)) * 10 + (b 4 - 48)) * 10 + (b 5 - 48))) (b 6 - 48) (by omega)
  have e5 := div10 ((((((b 0 - 48) * 10 + (b 1 - 48)) * 10 + (b 2 - 48)) * 10 + (b 3 - 48)) * 10 + (b 4 - 48))) (b 5 - 48) (by omega)
  have e4 := div10 (((((b 0 - 48) * 10 + (b 1 - 48)) * 10 + (b 2 - 48)) * 10 + (b 3 - 48))) (b 4 - 48) (by omega)
  have e3 := div10 ((((b 0 - 48) * 10 + (b 1 - 48)) * 10 + (b 2 - 48))) (b 3 - 48) (by omega)
  have e2 := div10 (((b 0 - 48) * 10 + (b 1 - 48))) (b 2 - 48) (by omega)
  have e1 := div10 (b 0 - 48) (b 1 - 48) (by omega)
  have : i = 0 ∨ i = 1 ∨ i = 2 ∨ i = 3 ∨ i = 4 ∨ i = 5 ∨ i = 6 ∨ i = 7 := by omega
  rcases this with h | h | h | h | h | h | h | h <;> subst h <;> simp only [fb, e7.1, e7.2, e6.1, e6.2, e5.1, e5.2, e4.1, e4.2, e3.1, e3.2, e2.1, e2.2, e1.1, e1.2] <;> omega
theorem dig_fb (m : Int) : Dig8 (fb m) := fun i hi => fb_bd m i hi
theorem pnum_fb (m : Int) (h0 : 0 ≤ m) (h1 : m < 100000000) : pnum (fb m) = m := by
  rw [pnum_dig _ (dig_fb m)]
  simp only [fb]
  omega
theorem pnum_congr (a b : Nat → Int) (h : ∀ i, i < 8 → a i = b i) : pnum a = pnum b := by
  unfold pnum
  rw [h 0 (by omega), h 1 (by omega), h 2 (by omega), h 3 (by omega), h 4 (by omega), h 5 (by omega), h 6 (by omega), h 7 (by omega)]

theorem fmt_size (m : Int) : (fmtS m).size = 9 := by unfold fmtS; rw [strOfNums_size]; rfl
theorem byt_fmt (m : Int) (i : Nat) (h : i < 8) : byt (fmtS m) i = fb m i := by
  have hb := fb_bd m i h
  have e : (fmtL m)[i]'(by show i < 9; omega) = fb m i := by
    have : i = 0 ∨ i = 1 ∨ i = 2 ∨ i = 3 ∨ i = 4 ∨ i = 5 ∨ i = 6 ∨ i = 7 := by omega
    rcases this with h | h | h | h | h | h | h | h <;> subst h <;> rfl
  unfold fmtS
  rw [byt_list (fmtL m) i (by show i < 9; omega) (by rw [e]; omega), e]
theorem byt_fmt8 (m : Int) : byt (fmtS m) 8 = ltr (fb m) := by
  have hb := ltr_bd (fb m)
  have e : (fmtL m)[8]'(by show 8 < 9; omega) = ltr (fb m) := rfl
  unfold fmtS
  rw [byt_list (fmtL m) 8 (by show 8 < 9; omega) (by rw [e]; omega), e]
theorem letB_ltr (b : Nat → Int) : letB (ltr b) = true := by
  have h0 := lsum_bd b
  refine (letB_at _).2 ⟨(lsum b % 23).toNat, by omega, ?_⟩
  rw [Int.toNat_of_nonneg (by omega)]
  rfl
theorem form_of (b : Nat → Int) (h : Dig8 b) (h8 : letB (b 8) = true) : formB b = true := by
  refine decide_eq_true (fun k hk => ?_)
  unfold fitB
  by_cases hlt : k < 8
  · rw [if_pos (by omega)]
    exact decide_eq_true (h k hlt)
  · rw [if_neg (by omega)]
    obtain rfl : k = 8 := by omega
    exact h8
theorem dig_congr (a b : Nat → Int) (h : ∀ i, i < 8 → a i = b i) (hb : Dig8 b) : Dig8 a := fun i hi => by rw [h i hi]; exact hb i hi

theorem pe_fmt (m : Int) : pe (fmtS m) = 0 := by
  have hf : formB (byt (fmtS m)) = true := form_of _ (dig_congr _ _ (fun i h => byt_fmt m i h) (dig_fb m)) (by rw [byt_fmt8]; exact letB_ltr _)
  unfold pe
  rw [if_pos ((shp_iff _).2 ⟨fmt_size m, hf⟩), if_pos]
  rw [byt_fmt8]
  exact ltr_congr _ _ (fun i h => byt_fmt m i h)
theorem pn_fmt (m : Int) (h0 : 0 ≤ m) (h1 : m < 100000000) : pn (fmtS m) = m := by
  unfold pn
  rw [if_pos (pe_fmt m), pnum_congr _ _ (fun i h => byt_fmt m i h)]
  exact pnum_fb m h0 h1

theorem pe_zero (s : ByteArray) (h : pe s = 0) : s.size = 9 ∧ formB (byt s) = true ∧ ltr (byt s) = byt s 8 := by
  unfold pe at h
  by_cases hs : shpB s = true
  · rw [if_pos hs] at h
    obtain ⟨h1, h2⟩ := (shp_iff s).1 hs
    by_cases hq : ltr (byt s) = byt s 8
    · exact ⟨h1, h2, hq⟩
    · rw [if_neg hq] at h; omega
  · rw [if_neg hs] at h; omega
theorem str9 (s : ByteArray) (hl : s.size = 9) : strOfNums [byt s 0, byt s 1, byt s 2, byt s 3, byt s 4, byt s 5, byt s 6, byt s 7, byt s 8] = s := by
  apply ba_ext
  rw [strOfNums_data]
  have h : s.data.toList.length = 9 := by simpa using hl
  unfold byt
  generalize s.data.toList = l at *
  match l, h with
  | [c0, c1, c2, c3, c4, c5, c6, c7, c8], _ => simp
theorem back_of (s : ByteArray) (h : pe s = 0) : vldB (pc s) (py s) (pk s) = true ∧ fs (pc s) (py s) (pk s) = s := by
  obtain ⟨h1, h2, h3⟩ := pe_zero s h
  have hD := form_dig _ h2
  obtain ⟨b0, b1⟩ := pnum_bd _ hD
  have hn : pn s = pnum (byt s) := by unfold pn; rw [if_pos h]
  have hv : vldB (pc s) (py s) (pk s) = true := by
    unfold pc py pk; rw [hn]; exact num_vld _ b0 b1
  refine ⟨hv, ?_⟩
  unfold fs
  rw [if_pos hv]
  unfold pc py pk
  rw [hn, num_eq _ b0 b1]
  have e := fb_pnum _ hD
  unfold fmtS fmtL
  rw [e 0 (by omega), e 1 (by omega), e 2 (by omega), e 3 (by omega), e 4 (by omega), e 5 (by omega), e 6 (by omega), e 7 (by omega), ltr_congr _ _ e, h3]
  exact str9 s h1
theorem fe_of (s : ByteArray) (h : pe s = 0) : fe (pc s) (py s) (pk s) = 0 := by
  unfold fe; rw [if_pos (back_of s h).1]
end Go.Proofs.Ytpdekglmmgecmaa.Id
