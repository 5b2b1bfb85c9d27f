/- Plain law: Parse reads what Text writes. -/
import Derived.Test.YtoiipifoehfcdaaDG
namespace Go.Proofs.Ytoiipifoehfcdaa.Dg
open Go.RowKit

/-- A word of 32 bits. -/
def W32 (x : Int) : Prop := 0 ≤ x ∧ x < 4294967296
def W4 (s : St) : Prop := W32 s.1 ∧ W32 s.2.1 ∧ W32 s.2.2.1 ∧ W32 s.2.2.2

theorem ofInt_nat (a : Nat) (ha : a < 4294967296) : (BitVec.ofInt 32 (a : Int)).toNat = a := by
  rw [BitVec.ofInt_natCast, BitVec.toNat_ofNat]; exact Nat.mod_eq_of_lt (by omega)
theorem and15_eq (y : Int) (h : W32 y) : bits .and .u32 y 15 = y % 16 := by
  obtain ⟨h0, h1⟩ := h
  obtain ⟨n, rfl⟩ := Int.eq_ofNat_of_zero_le h0
  show IntKind.u32.wrap ((BitVec.ofInt 32 (n : Int) &&& BitVec.ofInt 32 15).toNat : Int) = _
  rw [IntKind.wrap_u32, BitVec.toNat_and, ofInt_nat n (by omega), show (BitVec.ofInt 32 15).toNat = 2 ^ 4 - 1 from rfl, Nat.and_two_pow_sub_one_eq_mod]
  omega
theorem shl4_eq (v n : Int) (h0 : 0 ≤ v) (h1 : v < 268435456) (h2 : 0 ≤ n) (h3 : n < 16) : shl4 v n = v * 16 + n := by
  obtain ⟨a, rfl⟩ := Int.eq_ofNat_of_zero_le h0
  obtain ⟨b, rfl⟩ := Int.eq_ofNat_of_zero_le h2
  have e : ((a : Int) * 16 % 4294967296) = ((a * 16 : Nat) : Int) := by omega
  unfold shl4
  rw [e]
  show IntKind.u32.wrap ((BitVec.ofInt 32 ((a * 16 : Nat) : Int) ||| BitVec.ofInt 32 (b : Int)).toNat : Int) = _
  rw [IntKind.wrap_u32, BitVec.toNat_or, ofInt_nat _ (by omega), ofInt_nat b (by omega)]
  have : a * 16 ||| b = a * 16 + b := by
    have := Nat.two_pow_add_eq_or_of_lt (i := 4) (b := b) (by omega) a
    rw [show (2 : Nat) ^ 4 * a = a * 16 by omega] at this
    exact this.symm
  rw [this]; omega

theorem hexv_hexd (n : Int) (h0 : 0 ≤ n) (h1 : n ≤ 15) : hexv (hexd n) = n ∧ hexok (hexd n) = true ∧ 0 ≤ hexd n ∧ hexd n < 256 := by
  unfold hexd hexv hexok
  by_cases h : n < 10
  · rw [if_pos h, if_pos (by omega)]
    exact ⟨by omega, decide_eq_true (by omega), by omega, by omega⟩
  · rw [if_neg h, if_neg (by omega), if_pos (by omega)]
    exact ⟨by omega, decide_eq_true (by omega), by omega, by omega⟩

theorem byt_str (l : List Int) (i : Nat) (h : i < l.length) (hr : 0 ≤ gi l i ∧ gi l i < 256) : byt (strOfNums l) i = gi l i := by
  unfold byt
  rw [strOfNums_data, List.getD_eq_getElem?_getD, List.getElem?_map]
  unfold gi at hr ⊢
  rw [List.getD_eq_getElem?_getD] at hr ⊢
  rw [List.getElem?_eq_getElem h] at hr ⊢
  simp only [Option.map_some, Option.getD_some] at hr ⊢
  rw [UInt8.toNat_ofNat']
  omega

theorem nib_eq (x : Int) (m : Nat) (h : W32 x) : nib x m = x / 2 ^ (4 * m) % 16 := by
  refine and15_eq _ ?_
  obtain ⟨h0, h1⟩ := h
  have hp : (0 : Int) < 2 ^ (4 * m) := Int.pow_pos (by omega)
  exact ⟨Int.ediv_nonneg h0 (by omega), Int.lt_of_le_of_lt (Int.ediv_le_self _ h0) h1⟩

theorem tx_byt (s : St) (i : Nat) (h : i < 32) : byt (strOfNums (tx s 32)) i = dgt s i := by
  have e : gi (tx s 32) i = dgt s i := by
    unfold gi tx
    rw [List.getD_eq_getElem?_getD, List.getElem?_map, List.getElem?_range h]
    rfl
  obtain ⟨b0, b1⟩ := and15 (wrd s (i / 8) / 2 ^ (4 * (7 - i % 8)))
  obtain ⟨_, _, c0, c1⟩ := hexv_hexd _ b0 b1
  have hd : 0 ≤ dgt s i ∧ dgt s i < 256 := ⟨c0, c1⟩
  rw [byt_str _ _ (by rw [tx_len]; omega) (by rw [e]; exact hd), e]

theorem pok_tx (s : St) : pok (strOfNums (tx s 32)) := by
  refine ⟨by rw [strOfNums_size, tx_len], fun i hi => ?_⟩
  rw [tx_byt s i hi]
  obtain ⟨b0, b1⟩ := and15 (wrd s (i / 8) / 2 ^ (4 * (7 - i % 8)))
  exact (hexv_hexd _ b0 b1).2.1

/-- The first m digits of a word, as a number. -/
def pre (x : Int) (m : Nat) : Int := x / 2 ^ (4 * (8 - m))
theorem pre_zero (x : Int) (h : W32 x) : pre x 0 = 0 := by
  show x / 4294967296 = 0
  obtain ⟨h0, h1⟩ := h
  omega
theorem pre_full (x : Int) (m : Nat) (h : 8 ≤ m) : pre x m = x := by
  unfold pre
  rw [show 8 - m = 0 by omega]
  omega
theorem pre_step (x : Int) (m : Nat) (h : W32 x) (hm : m < 8) : shl4 (pre x m) (hexv (hexd (nib x (7 - m)))) = pre x (m + 1) := by
  obtain ⟨b0, b1⟩ := and15 (x / 2 ^ (4 * (7 - m)))
  rw [show hexv (hexd (nib x (7 - m))) = nib x (7 - m) from (hexv_hexd _ b0 b1).1]
  have hn := nib_eq x (7 - m) h
  obtain ⟨h0, h1⟩ := h
  have : m = 0 ∨ m = 1 ∨ m = 2 ∨ m = 3 ∨ m = 4 ∨ m = 5 ∨ m = 6 ∨ m = 7 := by omega
  unfold pre
  rcases this with rfl | rfl | rfl | rfl | rfl | rfl | rfl | rfl <;> (simp at hn ⊢; rw [hn]; rw [shl4_eq _ _ (by omega) (by omega) (by omega) (by omega)]; omega)

theorem pst_tx (s : St) (h : W4 s) : ∀ i, i ≤ 32 → pst (strOfNums (tx s 32)) i = (pre s.1 i, pre s.2.1 (i - 8), pre s.2.2.1 (i - 16), pre s.2.2.2 (i - 24))
  | 0, _ => by
    obtain ⟨a, b, c, d⟩ := h
    show (0, 0, 0, 0) = _
    rw [pre_zero _ a, pre_zero _ b, pre_zero _ c, pre_zero _ d]
  | i + 1, hi => by
    have ih := pst_tx s h i (by omega)
    obtain ⟨a, b, c, d⟩ := h
    have hb := tx_byt s i (by omega)
    unfold dgt at hb
    unfold pst
    simp only [ih, hb]
    have hk : i / 8 = 0 ∨ i / 8 = 1 ∨ i / 8 = 2 ∨ i / 8 = 3 := by omega
    rcases hk with hk | hk | hk | hk <;> simp only [hk, wrd, if_true, if_false, Nat.one_ne_zero, Nat.reduceEqDiff]
    · rw [show i % 8 = i by omega, pre_step _ _ a (by omega), show i + 1 - 8 = 0 by omega, show i - 8 = 0 by omega, show i + 1 - 16 = 0 by omega, show i - 16 = 0 by omega, show i + 1 - 24 = 0 by omega, show i - 24 = 0 by omega]
    · rw [show i % 8 = i - 8 by omega, pre_step _ _ b (by omega), pre_full _ i (by omega), pre_full _ (i + 1) (by omega), show i - 8 + 1 = i + 1 - 8 by omega, show i + 1 - 16 = 0 by omega, show i - 16 = 0 by omega, show i + 1 - 24 = 0 by omega, show i - 24 = 0 by omega]
    · rw [show i % 8 = i - 16 by omega, pre_step _ _ c (by omega), pre_full _ i (by omega), pre_full _ (i + 1) (by omega), pre_full _ (i - 8) (by omega), pre_full _ (i + 1 - 8) (by omega), show i - 16 + 1 = i + 1 - 16 by omega, show i + 1 - 24 = 0 by omega, show i - 24 = 0 by omega]
    · rw [show i % 8 = i - 24 by omega, pre_step _ _ d (by omega), pre_full _ i (by omega), pre_full _ (i + 1) (by omega), pre_full _ (i - 8) (by omega), pre_full _ (i + 1 - 8) (by omega), pre_full _ (i - 16) (by omega), pre_full _ (i + 1 - 16) (by omega), show i - 24 + 1 = i + 1 - 24 by omega]

theorem parse_text (s : St) (h : W4 s) : pst (strOfNums (tx s 32)) 32 = s := by
  rw [pst_tx s h 32 (by omega), pre_full _ _ (by omega), pre_full _ _ (by omega), pre_full _ _ (by omega), pre_full _ _ (by omega)]

end Go.Proofs.Ytoiipifoehfcdaa.Dg
