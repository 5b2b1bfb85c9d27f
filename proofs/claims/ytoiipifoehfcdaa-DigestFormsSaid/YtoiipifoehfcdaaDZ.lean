/- Plain law: the words of a text, byte by byte and group by group. -/
import Derived.Test.YtoiipifoehfcdaaDT
namespace Go.Proofs.Ytoiipifoehfcdaa.Dg
open Go.RowKit
set_option linter.unusedVariables false

theorem or_nat (a b : Nat) (ha : a < 4294967296) (hb : b < 4294967296) : bits .or .u32 (a : Int) (b : Int) = ((a ||| b : Nat) : Int) := by
  have h : a ||| b < 2 ^ 32 := Nat.or_lt_two_pow ha hb
  show IntKind.u32.wrap ((BitVec.ofInt 32 (a : Int) ||| BitVec.ofInt 32 (b : Int)).toNat : Int) = _
  rw [BitVec.toNat_or, BitVec.ofInt_natCast, BitVec.ofInt_natCast, BitVec.toNat_ofNat, BitVec.toNat_ofNat, Nat.mod_eq_of_lt ha, Nat.mod_eq_of_lt hb, IntKind.wrap_u32]
  omega
theorem or_hi (a b : Nat) (i : Nat) (hb : b < 2 ^ i) (h : 2 ^ i * a + b < 4294967296) : bits .or .u32 ((2 ^ i * a : Nat) : Int) (b : Int) = ((2 ^ i * a + b : Nat) : Int) := by
  rw [or_nat _ _ (by omega) (by omega), ← Nat.two_pow_add_eq_or_of_lt hb]
theorem or_lo (a b : Nat) (i : Nat) (hb : b < 2 ^ i) (h : 2 ^ i * a + b < 4294967296) : bits .or .u32 (b : Int) ((2 ^ i * a : Nat) : Int) = ((2 ^ i * a + b : Nat) : Int) := by
  rw [or_nat _ _ (by omega) (by omega), Nat.or_comm, ← Nat.two_pow_add_eq_or_of_lt hb]
/-- Byte number i of a text; nought behind its end. -/
def bn (s : ByteArray) (i : Nat) : Nat := (s.data.toList.getD i 0).toNat
theorem bn_byt (s : ByteArray) (i : Nat) : byt s i = (bn s i : Int) := rfl
theorem bn_lt (s : ByteArray) (i : Nat) : bn s i < 256 := (s.data.toList.getD i 0).toNat_lt
theorem bn_past (s : ByteArray) (i : Nat) (h : ¬ i < s.size) : bn s i = 0 := by
  unfold bn
  rw [List.getD_eq_getElem?_getD, List.getElem?_eq_none (by simpa using h)]
  rfl
/-- The first m bytes of group j, as a number. -/
def vn (s : ByteArray) (j : Nat) : Nat → Nat
  | 0 => 0
  | m + 1 => 256 ^ m * bn s (4 * j + m) + vn s j m
theorem vn_lt (s : ByteArray) (j : Nat) : ∀ m, vn s j m < 256 ^ m
  | 0 => by simp [vn]
  | m + 1 => by
    have ih := vn_lt s j m
    have hb := bn_lt s (4 * j + m)
    have : 256 ^ m * bn s (4 * j + m) ≤ 256 ^ m * 255 := Nat.mul_le_mul_left _ (by omega)
    unfold vn
    rw [Nat.pow_succ]
    omega
theorem bw_vn (s : ByteArray) : ∀ k j, bw s k j = (vn s j (min 4 (k - 4 * j)) : Int)
  | 0, j => by simp [bw, vn]
  | k + 1, j => by
    have ih := bw_vn s k j
    unfold bw
    by_cases h : j = k / 4
    · subst h
      rw [if_pos rfl, ih]
      have hm : min 4 (k - 4 * (k / 4)) = k % 4 := by omega
      have hm' : min 4 (k + 1 - 4 * (k / 4)) = k % 4 + 1 := by omega
      rw [hm, hm']
      have hv := vn_lt s (k / 4) (k % 4)
      have hv1 := vn_lt s (k / 4) (k % 4 + 1)
      have hb := bn_lt s k
      have e1 : (256 : Nat) ^ (k % 4) = 2 ^ (k % 4 * 8) := by rw [show (256 : Nat) = 2 ^ 8 from rfl, ← Nat.pow_mul, Nat.mul_comm]
      have e2 : 4 * (k / 4) + k % 4 = k := by omega
      have hle : (256 : Nat) ^ (k % 4 + 1) ≤ 256 ^ 4 := Nat.pow_le_pow_right (by omega) (by omega)
      have e3 : vn s (k / 4) (k % 4 + 1) = 2 ^ (k % 4 * 8) * bn s k + vn s (k / 4) (k % 4) := by
        show 256 ^ (k % 4) * bn s (4 * (k / 4) + k % 4) + _ = _
        rw [e2, e1]
      have e4 : byt s k * 2 ^ (k % 4 * 8) % 4294967296 = ((2 ^ (k % 4 * 8) * bn s k : Nat) : Int) := by
        rw [bn_byt]
        have : (bn s k : Int) * 2 ^ (k % 4 * 8) = ((2 ^ (k % 4 * 8) * bn s k : Nat) : Int) := by
          rw [Int.natCast_mul, Int.mul_comm]
          congr 1
        rw [this]
        omega
      rw [e4, or_lo _ _ _ (by rw [← e1]; exact hv) (by rw [← e3]; omega), e3]
    · rw [if_neg h, ih]
      congr 2
      omega
/-- The word of group j. -/
def gw (s : ByteArray) (j : Nat) : Int := (vn s j 4 : Int)
theorem vn_past (s : ByteArray) (j m m' : Nat) (h : s.size ≤ 4 * j + m) (hm : m ≤ m') : vn s j m' = vn s j m := by
  induction m' with
  | zero => obtain rfl : m = 0 := by omega
            rfl
  | succ n ih =>
    by_cases e : m = n + 1
    · subst e; rfl
    · unfold vn
      rw [bn_past _ _ (by omega), ih (by omega)]
      have : m ≤ n := by omega
      cases m <;> simp [vn]
theorem bw_gw (s : ByteArray) (j : Nat) (h : 4 * j ≤ s.size) : bw s s.size j = gw s j := by
  rw [bw_vn]
  unfold gw
  congr 1
  by_cases h4 : 4 ≤ s.size - 4 * j
  · rw [show min 4 (s.size - 4 * j) = 4 by omega]
  · rw [show min 4 (s.size - 4 * j) = s.size - 4 * j by omega]
    exact (vn_past s j _ 4 (by omega) (by omega)).symm
theorem bwl_gw (s : ByteArray) : bwl s ((s.size + 3) / 4) = (List.range ((s.size + 3) / 4)).map (gw s) ++ [(s.size : Int)] := by
  unfold bwl
  congr 1
  refine List.map_congr_left fun j hj => bw_gw s j ?_
  have := List.mem_range.1 hj
  omega
/-- A group read from its end: its last t bytes. -/
def hz (s : ByteArray) (i : Nat) : Nat → Nat
  | 0 => 0
  | t + 1 => hz s i t * 256 + bn s (i + (3 - t))
theorem hz_lt (s : ByteArray) (i : Nat) : ∀ t, hz s i t < 256 ^ t
  | 0 => by simp [hz]
  | t + 1 => by
    have ih := hz_lt s i t
    have hb := bn_lt s (i + (3 - t))
    unfold hz
    rw [Nat.pow_succ]
    omega
theorem hz_succ (s : ByteArray) (i t : Nat) : hz s i (t + 1) = hz s i t * 256 + bn s (i + (3 - t)) := rfl
theorem hz_gw (s : ByteArray) (j : Nat) : ((hz s (4 * j) 4 : Nat) : Int) = gw s j := by
  unfold gw
  have e1 : hz s (4 * j) 4 = (((0 * 256 + bn s (4 * j + 3)) * 256 + bn s (4 * j + 2)) * 256 + bn s (4 * j + 1)) * 256 + bn s (4 * j + 0) := rfl
  have e2 : vn s j 4 = 16777216 * bn s (4 * j + 3) + (65536 * bn s (4 * j + 2) + (256 * bn s (4 * j + 1) + (1 * bn s (4 * j + 0) + 0))) := rfl
  rw [e1, e2]
  omega
theorem hz_or (s : ByteArray) (i t : Nat) (ht : t < 4) : bits .or .u32 ((hz s i t : Int) * 256 % 4294967296) (byt s (i + (3 - t))) = ((hz s i (t + 1) : Nat) : Int) := by
  have h1 := hz_lt s i t
  have hle : (256 : Nat) ^ t ≤ 256 ^ 3 := Nat.pow_le_pow_right (by omega) (by omega)
  have hb := bn_lt s (i + (3 - t))
  have e : (hz s i t : Int) * 256 % 4294967296 = ((2 ^ 8 * hz s i t : Nat) : Int) := by omega
  rw [e, bn_byt, or_hi _ _ _ (by omega) (by omega), hz_succ]
  omega
theorem hz_no (s : ByteArray) (i t : Nat) (ht : t < 4) (h : ¬ i + (3 - t) < s.size) : (hz s i t : Int) * 256 % 4294967296 = ((hz s i (t + 1) : Nat) : Int) := by
  have h1 := hz_lt s i t
  have hle : (256 : Nat) ^ t ≤ 256 ^ 3 := Nat.pow_le_pow_right (by omega) (by omega)
  have := bn_past s _ h
  rw [hz_succ]
  omega
end Go.Proofs.Ytoiipifoehfcdaa.Dg
