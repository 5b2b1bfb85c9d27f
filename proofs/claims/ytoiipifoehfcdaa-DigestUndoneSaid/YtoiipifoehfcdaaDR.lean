/- Plain law: a round can be undone. -/
import Derived.Test.YtoiipifoehfcdaaDP
namespace Go.Proofs.Ytoiipifoehfcdaa.Dg
open Go.RowKit

/-- Difference of two words. -/
def sub32 (a b : Int) : Int := (a - b) % 4294967296
/-- A word rotated to the right. -/
def rotr (x n : Int) : Int := bits .or .u32 (x / 2 ^ n.toNat) (x * 2 ^ (32 - n).toNat % 4294967296)
theorem wrap_sub (a b : Int) : IntKind.u32.wrap (a - b) = sub32 a b := by rw [IntKind.wrap_u32]; rfl

theorem or_nat (a b : Nat) (ha : a < 4294967296) (hb : b < 4294967296) : bits .or .u32 (a : Int) (b : Int) = ((a ||| b : Nat) : Int) := by
  have hx : a ||| b < 2 ^ 32 := Nat.or_lt_two_pow (by omega) (by omega)
  show IntKind.u32.wrap ((BitVec.ofInt 32 (a : Int) ||| BitVec.ofInt 32 (b : Int)).toNat : Int) = _
  rw [IntKind.wrap_u32, BitVec.toNat_or, ofInt_nat a ha, ofInt_nat b hb]
  omega
theorem xor_nat (a b : Nat) (ha : a < 4294967296) (hb : b < 4294967296) : xor32 (a : Int) (b : Int) = ((a ^^^ b : Nat) : Int) := by
  have hx : a ^^^ b < 2 ^ 32 := Nat.xor_lt_two_pow (by omega) (by omega)
  show IntKind.u32.wrap ((BitVec.ofInt 32 (a : Int) ^^^ BitVec.ofInt 32 (b : Int)).toNat : Int) = _
  rw [IntKind.wrap_u32, BitVec.toNat_xor, ofInt_nat a ha, ofInt_nat b hb]
  omega

theorem W32.nat {x : Int} (h : W32 x) : ∃ m : Nat, x = m ∧ m < 4294967296 := by
  obtain ⟨h0, h1⟩ := h
  obtain ⟨m, rfl⟩ := Int.eq_ofNat_of_zero_le h0
  exact ⟨m, rfl, by omega⟩
theorem W32.mk (m : Nat) (h : m < 4294967296) : W32 (m : Int) := ⟨by omega, by omega⟩

theorem add32_W (a b : Int) : W32 (add32 a b) := by unfold W32 add32; omega
theorem xor32_W (a b : Int) (ha : W32 a) (hb : W32 b) : W32 (xor32 a b) := by
  obtain ⟨m, rfl, hm⟩ := ha.nat
  obtain ⟨n, rfl, hn⟩ := hb.nat
  rw [xor_nat m n hm hn]
  exact W32.mk _ (Nat.xor_lt_two_pow (n := 32) (by omega) (by omega))
theorem sub_add (a b : Int) (ha : W32 a) : sub32 (add32 a b) b = a := by
  unfold W32 at ha; unfold sub32 add32; omega
theorem xor_xor (a b : Int) (ha : W32 a) (hb : W32 b) : xor32 (xor32 a b) b = a := by
  obtain ⟨m, rfl, hm⟩ := ha.nat
  obtain ⟨n, rfl, hn⟩ := hb.nat
  rw [xor_nat m n hm hn, xor_nat _ _ (Nat.xor_lt_two_pow (n := 32) (by omega) (by omega)) hn, Nat.xor_assoc, Nat.xor_self, Nat.xor_zero]

/-- Rotation, as numbers: p = 2 ^ n, q = 2 ^ (32 - n). -/
theorem rotl_nat (m n : Nat) (hm : m < 4294967296) (h1 : n ≤ 32) : rotl (m : Int) (n : Int) = ((m % 2 ^ (32 - n) * 2 ^ n + m / 2 ^ (32 - n) : Nat) : Int) := by
  have hpq : 2 ^ (32 - n) * 2 ^ n = 4294967296 := by rw [← Nat.pow_add, show 32 - n + n = 32 by omega]
  unfold rotl
  rw [show ((n : Int)).toNat = n by omega, show (32 - (n : Int)).toNat = 32 - n by omega]
  have e1 : ((m : Int) * 2 ^ n % 4294967296) = ((m % 2 ^ (32 - n) * 2 ^ n : Nat) : Int) := by
    rw [← Nat.mul_mod_mul_right, hpq]
    simp
  have e2 : ((m : Int) / 2 ^ (32 - n)) = ((m / 2 ^ (32 - n) : Nat) : Int) := by simp
  have hq : 0 < 2 ^ (32 - n) := Nat.pow_pos (by omega)
  have hd : m / 2 ^ (32 - n) < 2 ^ n := by
    rw [Nat.div_lt_iff_lt_mul hq, Nat.mul_comm, hpq]; exact hm
  have hs : m % 2 ^ (32 - n) * 2 ^ n < 4294967296 := by
    rw [← hpq]; exact Nat.mul_lt_mul_of_pos_right (Nat.mod_lt _ hq) (Nat.pow_pos (by omega))
  have hl : m / 2 ^ (32 - n) < 4294967296 := Nat.lt_of_le_of_lt (Nat.div_le_self _ _) hm
  rw [e1, e2, or_nat _ _ hs hl]
  have := Nat.two_pow_add_eq_or_of_lt hd (m % 2 ^ (32 - n))
  rw [Nat.mul_comm] at this
  rw [← this]
theorem rotr_nat (m n : Nat) (hm : m < 4294967296) (h1 : n ≤ 32) : rotr (m : Int) (n : Int) = ((m % 2 ^ n * 2 ^ (32 - n) + m / 2 ^ n : Nat) : Int) := by
  have hpq : 2 ^ n * 2 ^ (32 - n) = 4294967296 := by rw [← Nat.pow_add, show n + (32 - n) = 32 by omega]
  unfold rotr
  rw [show ((n : Int)).toNat = n by omega, show (32 - (n : Int)).toNat = 32 - n by omega]
  have e1 : ((m : Int) * 2 ^ (32 - n) % 4294967296) = ((m % 2 ^ n * 2 ^ (32 - n) : Nat) : Int) := by
    rw [← Nat.mul_mod_mul_right, hpq]
    simp
  have e2 : ((m : Int) / 2 ^ n) = ((m / 2 ^ n : Nat) : Int) := by simp
  have hq : 0 < 2 ^ n := Nat.pow_pos (by omega)
  have hd : m / 2 ^ n < 2 ^ (32 - n) := by
    rw [Nat.div_lt_iff_lt_mul hq, Nat.mul_comm, hpq]; exact hm
  have hs : m % 2 ^ n * 2 ^ (32 - n) < 4294967296 := by
    rw [← hpq]; exact Nat.mul_lt_mul_of_pos_right (Nat.mod_lt _ hq) (Nat.pow_pos (by omega))
  have hl : m / 2 ^ n < 4294967296 := Nat.lt_of_le_of_lt (Nat.div_le_self _ _) hm
  rw [e1, e2, or_nat _ _ hl hs, Nat.or_comm]
  have := Nat.two_pow_add_eq_or_of_lt hd (m % 2 ^ n)
  rw [Nat.mul_comm] at this
  rw [← this]

theorem rotl_lt (m n : Nat) (hm : m < 4294967296) (h1 : n ≤ 32) : m % 2 ^ (32 - n) * 2 ^ n + m / 2 ^ (32 - n) < 4294967296 := by
  have hpq : 2 ^ (32 - n) * 2 ^ n = 4294967296 := by rw [← Nat.pow_add, show 32 - n + n = 32 by omega]
  have hq : 0 < 2 ^ (32 - n) := Nat.pow_pos (by omega)
  have hd : m / 2 ^ (32 - n) < 2 ^ n := by
    rw [Nat.div_lt_iff_lt_mul hq, Nat.mul_comm, hpq]; exact hm
  have hr : m % 2 ^ (32 - n) + 1 ≤ 2 ^ (32 - n) := Nat.mod_lt _ hq
  have := Nat.mul_le_mul_right (2 ^ n) hr
  rw [hpq, Nat.add_mul] at this
  omega
theorem rotl_W (a : Int) (n : Nat) (ha : W32 a) (h1 : n ≤ 32) : W32 (rotl a n) := by
  obtain ⟨m, rfl, hm⟩ := ha.nat
  rw [rotl_nat m n hm h1]
  exact W32.mk _ (rotl_lt m n hm h1)
theorem rotr_rotl (a : Int) (n : Nat) (ha : W32 a) (h1 : n ≤ 32) : rotr (rotl a n) n = a := by
  obtain ⟨m, rfl, hm⟩ := ha.nat
  have hpq : 2 ^ (32 - n) * 2 ^ n = 4294967296 := by rw [← Nat.pow_add, show 32 - n + n = 32 by omega]
  have hq : 0 < 2 ^ (32 - n) := Nat.pow_pos (by omega)
  have hp : 0 < 2 ^ n := Nat.pow_pos (by omega)
  have hd : m / 2 ^ (32 - n) < 2 ^ n := by
    rw [Nat.div_lt_iff_lt_mul hq, Nat.mul_comm, hpq]; exact hm
  rw [rotl_nat m n hm h1, rotr_nat _ n (rotl_lt m n hm h1) h1]
  have e1 : (m % 2 ^ (32 - n) * 2 ^ n + m / 2 ^ (32 - n)) % 2 ^ n = m / 2 ^ (32 - n) := by
    rw [Nat.add_comm, Nat.add_mul_mod_self_right, Nat.mod_eq_of_lt hd]
  have e2 : (m % 2 ^ (32 - n) * 2 ^ n + m / 2 ^ (32 - n)) / 2 ^ n = m % 2 ^ (32 - n) := by
    rw [Nat.add_comm, Nat.add_mul_div_right _ _ hp, Nat.div_eq_of_lt hd, Nat.zero_add]
  rw [e1, e2, Nat.mul_comm, Nat.div_add_mod]

theorem rotl_Wi (a n : Int) (ha : W32 a) (h0 : 0 ≤ n) (h1 : n ≤ 32) : W32 (rotl a n) := by
  obtain ⟨m, rfl⟩ := Int.eq_ofNat_of_zero_le h0
  exact rotl_W a m ha (by omega)
theorem rotr_rotli (a n : Int) (ha : W32 a) (h0 : 0 ≤ n) (h1 : n ≤ 32) : rotr (rotl a n) n = a := by
  obtain ⟨m, rfl⟩ := Int.eq_ofNat_of_zero_le h0
  exact rotr_rotl a m ha (by omega)

theorem rnd_W (s : St) (h : W4 s) : W4 (rnd s) := by
  obtain ⟨a, b, c, d⟩ := s
  obtain ⟨ha, hb, hc, hd⟩ := h
  have x1 := add32_W a b
  have x2 := add32_W c d
  have x3 := xor32_W _ _ (rotl_Wi b 5 hb (by omega) (by omega)) x1
  have x4 := xor32_W _ _ (rotl_Wi d 8 hd (by omega) (by omega)) x2
  exact ⟨add32_W _ _, xor32_W _ _ (rotl_Wi _ 7 x3 (by omega) (by omega)) (add32_W _ _), rotl_Wi _ 16 (add32_W _ _) (by omega) (by omega), xor32_W _ _ (rotl_Wi _ 13 x4 (by omega) (by omega)) (add32_W _ _)⟩
theorem itr_W (s : St) (h : W4 s) : ∀ k, W4 (itr k s)
  | 0 => h
  | k + 1 => rnd_W _ (itr_W s h k)

/-- The round undone, as the statement does it. -/
def urnd (s : St) : St :=
  let c1 := rotr s.2.2.1 16
  let b1 := rotr (xor32 s.2.1 c1) 7
  let c2 := sub32 c1 b1
  let d1 := rotr (xor32 s.2.2.2 s.1) 13
  let a1 := sub32 s.1 d1
  let d2 := rotr (xor32 d1 c2) 8
  let c3 := sub32 c2 d2
  let a2 := rotr a1 16
  let b2 := rotr (xor32 b1 a2) 5
  (sub32 a2 b2, b2, c3, d2)

theorem urnd_rnd (s : St) (h : W4 s) : urnd (rnd s) = s := by
  obtain ⟨a, b, c, d⟩ := s
  obtain ⟨ha, hb, hc, hd⟩ := h
  dsimp only at ha hb hc hd
  have x1 := add32_W a b
  have x2 := add32_W c d
  have r5 := rotl_Wi b 5 hb (by omega) (by omega)
  have r8 := rotl_Wi d 8 hd (by omega) (by omega)
  have x3 := xor32_W _ _ r5 x1
  have x4 := xor32_W _ _ r8 x2
  have x5 := add32_W (add32 c d) (xor32 (rotl b 5) (add32 a b))
  have x6 := add32_W (rotl (add32 a b) 16) (xor32 (rotl d 8) (add32 c d))
  have y16 := rotl_Wi (add32 a b) 16 x1 (by omega) (by omega)
  have e1 := rotr_rotli _ 16 x5 (by omega) (by omega)
  have e2 := rotr_rotli _ 7 x3 (by omega) (by omega)
  have e3 := rotr_rotli _ 13 x4 (by omega) (by omega)
  have e4 := rotr_rotli _ 8 hd (by omega) (by omega)
  have e5 := rotr_rotli _ 16 x1 (by omega) (by omega)
  have e6 := rotr_rotli _ 5 hb (by omega) (by omega)
  have z7 := rotl_Wi _ 7 x3 (by omega) (by omega)
  have z13 := rotl_Wi _ 13 x4 (by omega) (by omega)
  unfold urnd rnd
  simp only [e1, xor_xor _ _ z7 x5, e2, sub_add _ _ x2, xor_xor _ _ z13 x6, e3, sub_add _ _ y16, xor_xor _ _ r8 x2, e4, sub_add _ _ hc, e5, xor_xor _ _ r5 x1, e6, sub_add _ _ ha]
end Go.Proofs.Ytoiipifoehfcdaa.Dg
