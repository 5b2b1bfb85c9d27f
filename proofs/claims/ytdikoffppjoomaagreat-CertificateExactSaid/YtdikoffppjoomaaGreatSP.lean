/- Plain law: signatures in the group of the powers of 4 modulo 2147483579. No program in sight. -/
import Derived.Test.YtdikoffppjoomaaGreatNS
namespace Go.Proofs.YtdikoffppjoomaaGreat.Sg
open Go.Proofs.YtdikoffppjoomaaGreat.Nt

theorem cM (x : Nat) : ((x % 2147483579 : Nat) : Int) = (x : Int) % 2147483579 := Int.natCast_emod x 2147483579
theorem cQ (x : Nat) : ((x % 1073741789 : Nat) : Int) = (x : Int) % 1073741789 := Int.natCast_emod x 1073741789
/-- x to the power n modulo the modulus; 0 outside. -/
noncomputable def pw (x n : Int) : Int := if x < 0 ∨ 2147483579 ≤ x ∨ n < 0 then 0 else ((pwN 2147483579 x.toNat n.toNat : Nat) : Int)
theorem pw_nat (x n : Nat) (h : x < 2147483579) : pw (x : Int) (n : Int) = (pwN 2147483579 x n : Nat) := by
  unfold pw
  rw [if_neg (by omega)]
  simp
theorem pw_no (x n : Int) (h : x < 0 ∨ 2147483579 ≤ x ∨ n < 0) : pw x n = 0 := if_pos h
theorem pw_bd (x n : Int) : 0 ≤ pw x n ∧ pw x n < 2147483579 := by
  unfold pw
  split
  · omega
  · have := pw_lt 2147483579 x.toNat n.toNat (by decide)
    omega
theorem pw4 (n : Nat) : pw 4 (n : Int) = (pwN 2147483579 4 n : Nat) := pw_nat 4 n (by decide)
/-- A member of the group. -/
noncomputable def mem (x : Int) : Bool := decide (1 ≤ x ∧ x < 2147483579 ∧ pw x 1073741789 = 1)
/-- A signature with challenge c verifies. -/
noncomputable def ver (p R S c : Int) : Bool := mem p && mem R && decide (0 ≤ S ∧ S < 1073741789) && decide (pw 4 S = R * pw p c % 2147483579)
theorem mem4 (n : Nat) : mem (pw 4 (n : Int)) = true := by
  unfold mem
  have h1 := pw_lt 2147483579 4 n (by decide)
  have h2 := pw4_ne n
  refine decide_eq_true ⟨?_, ?_, ?_⟩
  · rw [pw4]
    rcases Nat.eq_zero_or_pos (pwN 2147483579 4 n) with h | h
    · exact absurd (by rw [h]; exact Nat.dvd_zero _) h2
    · omega
  · rw [pw4]; omega
  · rw [pw4, show (1073741789 : Int) = ((1073741789 : Nat) : Int) from rfl, pw_nat _ _ h1, pw_pow, (pw4_one _).2 (Nat.mul_mod_left _ _)]
    rfl
theorem rhs4 (a k c : Nat) : pw 4 (k : Int) * pw (pw 4 (a : Int)) (c : Int) % 2147483579 = (pwN 2147483579 4 (k + c * a) : Nat) := by
  have h1 := pw_lt 2147483579 4 a (by decide)
  rw [pw4, pw4, pw_nat _ _ h1, pw_pow, Nat.mul_comm c a, ← pw_mul, cM, Int.natCast_mul]
theorem ver4 (a k c : Nat) (S : Int) (h0 : 0 ≤ S) (h1 : S < 1073741789) : ver (pw 4 (a : Int)) (pw 4 (k : Int)) S (c : Int) = decide (S = ((k + c * a) % 1073741789 : Nat)) := by
  obtain ⟨s, rfl⟩ := Int.eq_ofNat_of_zero_le h0
  unfold ver
  rw [mem4, mem4, rhs4, decide_eq_true (show 0 ≤ (s : Int) ∧ (s : Int) < 1073741789 by omega), show pw 4 (s : Int) = _ from pw4 s, Bool.true_and, Bool.true_and, Bool.true_and]
  rw [Bool.eq_iff_iff, decide_eq_true_iff, decide_eq_true_iff]
  have := pw4_iff s (k + c * a)
  have hs : s % 1073741789 = s := Nat.mod_eq_of_lt (by omega)
  rw [hs] at this
  constructor
  · intro h; rw [← this.1 (Int.ofNat.inj h)]
  · intro h; rw [this.2 (Int.ofNat.inj h)]
theorem ver_no (p R S c : Int) (h : S < 0 ∨ 1073741789 ≤ S) : ver p R S c = false := by
  unfold ver
  rw [decide_eq_false (show ¬ (0 ≤ S ∧ S < 1073741789) by omega)]
  simp
/-- What is signed verifies. -/
theorem holds (key k c : Int) (h0 : 0 ≤ key) (h1 : 0 ≤ k) (h2 : 0 ≤ c) : ver (pw 4 key) (pw 4 k) ((k + c * key) % 1073741789) c = true := by
  obtain ⟨a, rfl⟩ := Int.eq_ofNat_of_zero_le h0
  obtain ⟨k, rfl⟩ := Int.eq_ofNat_of_zero_le h1
  obtain ⟨c, rfl⟩ := Int.eq_ofNat_of_zero_le h2
  have e := ver4 a k c (((k : Int) + c * a) % 1073741789) (by omega) (by omega)
  rw [e]
  exact decide_eq_true (by rw [cQ, Int.natCast_add, Int.natCast_mul])
theorem other_S (key k c S : Int) (h0 : 0 ≤ key) (h1 : 0 ≤ k) (h2 : 0 ≤ c) (h3 : S ≠ (k + c * key) % 1073741789) : ver (pw 4 key) (pw 4 k) S c = false := by
  by_cases hS : S < 0 ∨ 1073741789 ≤ S
  · exact ver_no _ _ _ _ hS
  obtain ⟨a, rfl⟩ := Int.eq_ofNat_of_zero_le h0
  obtain ⟨k, rfl⟩ := Int.eq_ofNat_of_zero_le h1
  obtain ⟨c, rfl⟩ := Int.eq_ofNat_of_zero_le h2
  have e := ver4 a k c S (by omega) (by omega)
  rw [e]
  exact decide_eq_false (fun h => h3 (by rw [h, cQ, Int.natCast_add, Int.natCast_mul]))
/-- Another digest: it verifies exactly if the challenge is the same. -/
theorem other_d (key k c c' : Int) (h0 : 1 ≤ key) (h0' : key < 1073741789) (h1 : 0 ≤ k) (h2 : 0 ≤ c) (h2' : c < 1073741789) (h3 : 0 ≤ c') (h3' : c' < 1073741789) : ver (pw 4 key) (pw 4 k) ((k + c * key) % 1073741789) c' = (c == c') := by
  obtain ⟨a, rfl⟩ := Int.eq_ofNat_of_zero_le (show 0 ≤ key by omega)
  obtain ⟨k, rfl⟩ := Int.eq_ofNat_of_zero_le h1
  obtain ⟨c, rfl⟩ := Int.eq_ofNat_of_zero_le h2
  obtain ⟨c', rfl⟩ := Int.eq_ofNat_of_zero_le h3
  rw [ver4 a k c' _ (by omega) (by omega), Bool.eq_iff_iff, decide_eq_true_iff, beq_iff_eq]
  constructor
  · intro h
    rw [← Int.natCast_mul, ← Int.natCast_add, ← cQ] at h
    have h' : (k + c * a) % 1073741789 = (k + c' * a) % 1073741789 := Int.ofNat.inj h
    have h5 : c * a % 1073741789 = c' * a % 1073741789 := by omega
    have := cancelQ a c c' (by omega) (by omega) (by omega) (by omega) h5
    rw [this]
  · intro h
    rw [h, cQ, Int.natCast_add, Int.natCast_mul]
/-- Somebody else's key: it verifies exactly if the exponents agree. -/
theorem other_q (key key2 k c c2 : Int) (h0 : 0 ≤ key) (h0' : 0 ≤ key2) (h1 : 0 ≤ k) (h2 : 0 ≤ c) (h3 : 0 ≤ c2) : ver (pw 4 key2) (pw 4 k) ((k + c * key) % 1073741789) c2 = ((c * key - c2 * key2).tmod 1073741789 == 0) := by
  obtain ⟨a, rfl⟩ := Int.eq_ofNat_of_zero_le h0
  obtain ⟨b, rfl⟩ := Int.eq_ofNat_of_zero_le h0'
  obtain ⟨k, rfl⟩ := Int.eq_ofNat_of_zero_le h1
  obtain ⟨c, rfl⟩ := Int.eq_ofNat_of_zero_le h2
  obtain ⟨c2, rfl⟩ := Int.eq_ofNat_of_zero_le h3
  rw [ver4 b k c2 _ (by omega) (by omega), Bool.eq_iff_iff, decide_eq_true_iff, beq_iff_eq]
  have e : ∀ x : Int, x.tmod 1073741789 = 0 ↔ x % 1073741789 = 0 := fun x => by
    rw [← Int.dvd_iff_tmod_eq_zero, ← Int.dvd_iff_emod_eq_zero]
  rw [e]
  generalize (c : Int) * a = X
  rw [cQ, Int.natCast_add, Int.natCast_mul]
  generalize (c2 : Int) * b = Y
  omega
/-- The inverse of x modulo the order. -/
noncomputable def inv (x : Int) : Int := ((pwN 1073741789 x.toNat 1073741787 : Nat) : Int)
theorem inv_bd (x : Int) : 0 ≤ inv x ∧ inv x < 1073741789 := by
  unfold inv
  have := pw_lt 1073741789 x.toNat 1073741787 (by decide)
  omega
/-- Two signatures with one R tell the key. -/
theorem leaks (key k c f : Int) (h0 : 1 ≤ key) (h0' : key < 1073741789) (h2 : 0 ≤ c) (h2' : c < 1073741789) (h3 : 0 ≤ f) (h3' : f < 1073741789) (hne : c ≠ f) :
    (((k + c * key) % 1073741789 - (k + f * key) % 1073741789) % 1073741789) * inv ((c - f) % 1073741789) % 1073741789 = key := by
  have hd0 : 0 < (c - f) % 1073741789 := by omega
  have hd1 : (c - f) % 1073741789 < 1073741789 := by omega
  have e0 : ∀ a b : Int, (a % 1073741789) * b % 1073741789 = a * b % 1073741789 := fun a b => by
    rw [Int.mul_emod, Int.emod_emod_of_dvd _ (Int.dvd_refl _), ← Int.mul_emod]
  have e1 : ((k + c * key) % 1073741789 - (k + f * key) % 1073741789) % 1073741789 = (c - f) * key % 1073741789 := by
    rw [← Int.sub_emod, Int.sub_mul]
    congr 1
    omega
  rw [e1, ← e0 (c - f) key]
  obtain ⟨d, hd⟩ := Int.eq_ofNat_of_zero_le (show 0 ≤ (c - f) % 1073741789 by omega)
  rw [hd] at hd0 hd1 ⊢
  have hi := inverseQ d (by omega) (by omega)
  have hi' : inv (d : Int) * (d : Int) % 1073741789 = 1 := by
    unfold inv
    rw [Int.toNat_natCast, ← Int.natCast_mul, ← cQ, hi]
    rfl
  rw [e0]
  have e3 : (d : Int) * key * inv (d : Int) = (inv (d : Int) * (d : Int)) * key := by
    rw [Int.mul_comm _ (inv (d : Int)), Int.mul_assoc]
  rw [e3, ← e0, hi', Int.one_mul]
  omega
theorem group1 (x n m : Int) (h0 : 0 ≤ x) (h1 : x < 2147483579) (hn : 0 ≤ n) (hm : 0 ≤ m) : pw x (n + m) = pw x n * pw x m % 2147483579 := by
  obtain ⟨a, rfl⟩ := Int.eq_ofNat_of_zero_le h0
  obtain ⟨n, rfl⟩ := Int.eq_ofNat_of_zero_le hn
  obtain ⟨m, rfl⟩ := Int.eq_ofNat_of_zero_le hm
  rw [pw_nat a n (by omega), pw_nat a m (by omega), show (n : Int) + m = ((n + m : Nat) : Int) from rfl, pw_nat a _ (by omega), ← pw_mul, cM, Int.natCast_mul]
theorem group2 (x n m : Int) (h0 : 0 ≤ x) (h1 : x < 2147483579) (hn : 0 ≤ n) (hm : 0 ≤ m) : pw (pw x n) m = pw x (n * m) := by
  obtain ⟨a, rfl⟩ := Int.eq_ofNat_of_zero_le h0
  obtain ⟨n, rfl⟩ := Int.eq_ofNat_of_zero_le hn
  obtain ⟨m, rfl⟩ := Int.eq_ofNat_of_zero_le hm
  have := pw_lt 2147483579 a n (by decide)
  rw [pw_nat a n (by omega), pw_nat _ m this, show (n : Int) * m = ((n * m : Nat) : Int) from rfl, pw_nat a _ (by omega), pw_pow]
theorem group3 (n : Int) (hn : 0 ≤ n) : pw 4 (n + 1073741789) = pw 4 n := by
  obtain ⟨n, rfl⟩ := Int.eq_ofNat_of_zero_le hn
  rw [show (n : Int) + 1073741789 = ((n + 1073741789 : Nat) : Int) from rfl, pw4, pw4, show n + 1073741789 = n + 1073741789 * 1 from rfl, pw4_add]
theorem group4 (x : Int) (h0 : 1 ≤ x) (h1 : x < 2147483579) : pw x 2147483578 = 1 := by
  obtain ⟨a, rfl⟩ := Int.eq_ofNat_of_zero_le (show 0 ≤ x by omega)
  rw [show (2147483578 : Int) = ((2147483578 : Nat) : Int) from rfl, pw_nat a _ (by omega), fermatM a (by omega) (by omega)]
  rfl
theorem order4 : pw 4 1073741789 = 1 := by
  rw [show (1073741789 : Int) = ((1073741789 : Nat) : Int) from rfl, pw4, pw4Q]
  rfl
theorem pub2 : pw 4 2 = 16 := by
  rw [show (2 : Int) = ((2 : Nat) : Int) from rfl, pw4, pwN_eq]
  rfl
/-- One round of Power's loop. -/
theorem step1 (m r x n : Nat) (h : n % 2 = 1) : (r * x % m) * pwN m (x * x % m) (n / 2) % m = r * pwN m x n % m := by
  have := pw_step m r x n
  rwa [if_pos h] at this
theorem step0 (m r x n : Nat) (h : ¬ n % 2 = 1) : r * pwN m (x * x % m) (n / 2) % m = r * pwN m x n % m := by
  have := pw_step m r x n
  rwa [if_neg h] at this
theorem rec1 (x n : Int) (h0 : 0 ≤ x) (h1 : x < 2147483579) (hn : 1 ≤ n) (h : n % 2 = 1) : pw x n = pw (x * x % 2147483579) (n / 2) * x % 2147483579 := by
  obtain ⟨a, rfl⟩ := Int.eq_ofNat_of_zero_le h0
  obtain ⟨n, rfl⟩ := Int.eq_ofNat_of_zero_le (show 0 ≤ n by omega)
  have e1 : (a : Int) * a % 2147483579 = ((a * a % 2147483579 : Nat) : Int) := by rw [cM, Int.natCast_mul]
  have e2 : (n : Int) / 2 = ((n / 2 : Nat) : Int) := by omega
  rw [e1, e2, pw_nat a n (by omega), pw_nat _ _ (Nat.mod_lt _ (by decide)), pw_two, if_pos (by omega), cM, Int.natCast_mul]
theorem rec0 (x n : Int) (h0 : 0 ≤ x) (h1 : x < 2147483579) (hn : 1 ≤ n) (h : ¬ n % 2 = 1) : pw x n = pw (x * x % 2147483579) (n / 2) := by
  obtain ⟨a, rfl⟩ := Int.eq_ofNat_of_zero_le h0
  obtain ⟨n, rfl⟩ := Int.eq_ofNat_of_zero_le (show 0 ≤ n by omega)
  have e1 : (a : Int) * a % 2147483579 = ((a * a % 2147483579 : Nat) : Int) := by rw [cM, Int.natCast_mul]
  have e2 : (n : Int) / 2 = ((n / 2 : Nat) : Int) := by omega
  rw [e1, e2, pw_nat a n (by omega), pw_nat _ _ (Nat.mod_lt _ (by decide)), pw_two, if_neg (by omega)]
theorem rec_zero (x : Int) (h0 : 0 ≤ x) (h1 : x < 2147483579) : pw x 0 = 1 := by
  obtain ⟨a, rfl⟩ := Int.eq_ofNat_of_zero_le h0
  rw [show (0 : Int) = ((0 : Nat) : Int) from rfl, pw_nat a 0 (by omega), pw_zero _ _ (by decide)]
  rfl
theorem mod_bd (a b : Int) (ha : 0 ≤ a) (ha' : a < 2147483648) (hb : 0 ≤ b) (hb' : b < 2147483648) : 0 ≤ a * b ∧ a * b < 4611686018427387904 := by
  constructor
  · exact Int.mul_nonneg ha hb
  · have := Int.mul_le_mul (show a ≤ 2147483647 by omega) (show b ≤ 2147483647 by omega) hb (by omega)
    omega
/-- What Mod returns. -/
theorem mod_eq (x n : Int) (h : 1 ≤ n) : (x.tmod n + n) % n = x % n ∧ -n < x.tmod n ∧ x.tmod n < n := by
  have h0 := Int.emod_nonneg x (show n ≠ 0 by omega)
  have h1 := Int.emod_lt_of_pos x (show 0 < n by omega)
  rw [Int.tmod_eq_emod]
  split
  · refine ⟨?_, by omega, by omega⟩
    rw [show x % n - ((0 : Nat) : Int) = x % n by omega, Int.add_emod_right, Int.emod_emod_of_dvd _ (Int.dvd_refl _)]
  · have e : ((n.natAbs : Nat) : Int) = n := by omega
    rw [e]
    refine ⟨?_, by omega, by omega⟩
    rw [show x % n - n + n = x % n by omega, Int.emod_emod_of_dvd _ (Int.dvd_refl _)]
end Go.Proofs.YtdikoffppjoomaaGreat.Sg
