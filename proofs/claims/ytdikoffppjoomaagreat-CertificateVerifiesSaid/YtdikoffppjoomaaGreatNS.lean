/- Plain number theory: the group of the signatures: powers modulo 2147483579, the base 4 of order 1073741789. No program in sight. -/
import Derived.Test.YtdikoffppjoomaaGreatNT
namespace Go.Proofs.YtdikoffppjoomaaGreat.Nt

theorem prM : Pr 2147483579 := pr_of _ 16 (by decide) (by decide) (by decide +kernel)
theorem prQ : Pr 1073741789 := pr_of _ 15 (by decide) (by decide) (by decide +kernel)

theorem pwN_ex : ∃ f : Nat → Nat → Nat → Nat, ∀ m x n, f m x n = x ^ n % m := ⟨fun m x n => x ^ n % m, fun _ _ _ => rfl⟩
/-- x to the power n modulo m (chosen, so that nothing unfolds it). -/
noncomputable def pwN : Nat → Nat → Nat → Nat := Classical.choose pwN_ex
theorem pwN_eq (m x n : Nat) : pwN m x n = x ^ n % m := Classical.choose_spec pwN_ex m x n

theorem pw_lt (m x n : Nat) (h : 0 < m) : pwN m x n < m := by rw [pwN_eq]; exact Nat.mod_lt _ h
theorem pw_zero (m x : Nat) (h : 1 < m) : pwN m x 0 = 1 := by rw [pwN_eq, Nat.pow_zero, Nat.mod_eq_of_lt h]
theorem pw_mul (m x a b : Nat) : pwN m x a * pwN m x b % m = pwN m x (a + b) := by rw [pwN_eq, pwN_eq, pwN_eq, ← Nat.mul_mod, Nat.pow_add]
theorem pw_pow (m x a b : Nat) : pwN m (pwN m x a) b = pwN m x (a * b) := by rw [pwN_eq, pwN_eq, pwN_eq, ← Nat.pow_mod, Nat.pow_mul]
theorem pw_mod (m x n : Nat) : pwN m (x % m) n = pwN m x n := by rw [pwN_eq, pwN_eq, ← Nat.pow_mod]
/-- One step of the loop of Power. -/
theorem pw_step (m r x n : Nat) : (if n % 2 = 1 then r * x % m else r) * pwN m (x * x % m) (n / 2) % m = r * pwN m x n % m := by
  have e : pwN m (x * x % m) (n / 2) = x ^ (2 * (n / 2)) % m := by
    rw [pwN_eq, ← Nat.pow_mod, Nat.pow_mul, Nat.pow_two]
  rw [e, pwN_eq]
  by_cases h : n % 2 = 1
  · rw [if_pos h, ← Nat.mul_mod, Nat.mul_assoc, Nat.mul_mod r (x ^ n % m), Nat.mod_mod, ← Nat.mul_mod]
    have : x * x ^ (2 * (n / 2)) = x ^ n := by
      rw [Nat.mul_comm, ← Nat.pow_succ]
      congr 1
      omega
    rw [this]
  · rw [if_neg h, show 2 * (n / 2) = n by omega]
theorem pw_two (m x n : Nat) : pwN m x n = (if n % 2 = 1 then pwN m (x * x % m) (n / 2) * x % m else pwN m (x * x % m) (n / 2)) := by
  have e : pwN m (x * x % m) (n / 2) = x ^ (2 * (n / 2)) % m := by
    rw [pwN_eq, ← Nat.pow_mod, Nat.pow_mul, Nat.pow_two]
  rw [e, pwN_eq]
  by_cases h : n % 2 = 1
  · rw [if_pos h, Nat.mod_mul_mod, ← Nat.pow_succ]
    congr 2
    omega
  · rw [if_neg h]
    congr 2
    omega

/-- A power reckoned by squaring, for numerals. -/
def fp (m : Nat) : Nat → Nat → Nat → Nat → Nat
  | 0, _, _, r => r
  | f + 1, x, n, r => fp m f (x * x % m) (n / 2) (if n % 2 = 1 then r * x % m else r)
theorem fp_eq (m : Nat) : ∀ f x n r, n < 2 ^ f → fp m f x n r % m = r * pwN m x n % m
  | 0, x, n, r, h => by
    obtain rfl : n = 0 := by simp at h; omega
    rw [pwN_eq]; simp [fp]
  | f + 1, x, n, r, h => by
    show fp m f _ _ _ % m = _
    rw [fp_eq m f _ _ _ (by rw [Nat.pow_succ] at h; omega), pw_step]
theorem pw_mm (m x n : Nat) : pwN m x n % m = pwN m x n := by rw [pwN_eq, Nat.mod_mod]
theorem one_pw (m n : Nat) (hm : 1 < m) : pwN m 1 n = 1 := by rw [pwN_eq, Nat.one_pow, Nat.mod_eq_of_lt hm]
theorem zero_pw (m n : Nat) (hn : 0 < n) : pwN m 0 n = 0 := by rw [pwN_eq, Nat.zero_pow hn, Nat.zero_mod]
theorem pw_one (m x : Nat) : pwN m x 1 = x % m := by rw [pwN_eq, Nat.pow_one]
theorem fermat_pw {p : Nat} (h : Pr p) (x : Nat) (h0 : 0 < x) (h1 : x < p) : pwN p x (p - 1) = 1 := by
  rw [pwN_eq]
  exact fermat h x (fun h => by have := Nat.le_of_dvd h0 h; omega)
theorem pw_succ (m x n : Nat) : pwN m x n * x % m = pwN m x (n + 1) := by rw [pwN_eq, pwN_eq, Nat.mod_mul_mod, ← Nat.pow_succ]
theorem fp_pw (m f x n : Nat) (h : n < 2 ^ f) : pwN m x n = fp m f x n 1 % m := by rw [fp_eq m f x n 1 h, Nat.one_mul, pw_mm]
theorem pw4Q : pwN 2147483579 4 1073741789 = 1 := by
  rw [fp_pw _ 31 _ _ (by decide)]
  decide +kernel

/-- Exponents at which a power is 1 are closed under the greatest common divisor. -/
theorem one_gcd (m x : Nat) (hm : 1 < m) (a b : Nat) : pwN m x a = 1 → pwN m x b = 1 → pwN m x (Nat.gcd a b) = 1 := by
  induction a, b using Nat.gcd.induction with
  | H0 n => intro _ h; rw [Nat.gcd_zero_left]; exact h
  | H1 a b ha ih =>
    intro h1 h2
    rw [Nat.gcd_rec]
    refine ih ?_ h1
    have e : pwN m x b = pwN m x (b % a) := by
      have := pw_mul m x (a * (b / a)) (b % a)
      rw [Nat.div_add_mod] at this
      rw [← this, ← pw_pow, h1, pwN_eq m 1, Nat.one_pow, Nat.mod_eq_of_lt hm, Nat.one_mul, pwN_eq, Nat.mod_mod]
    rw [← e]; exact h2
theorem pw4_ne (n : Nat) : ¬ 2147483579 ∣ pwN 2147483579 4 n := by
  intro h
  have hl := pw_lt 2147483579 4 n (by decide)
  have h0 : pwN 2147483579 4 n = 0 := by
    rcases Nat.eq_zero_or_pos (pwN 2147483579 4 n) with h1 | h1
    · exact h1
    · have := Nat.le_of_dvd h1 h
      omega
  have := pw_pow 2147483579 4 n 1073741789
  rw [h0, Nat.mul_comm, ← pw_pow, pw4Q, zero_pw _ _ (by decide), one_pw _ _ (by decide)] at this
  exact absurd this (by decide)
theorem pw4_one (n : Nat) : pwN 2147483579 4 n = 1 ↔ n % 1073741789 = 0 := by
  constructor
  · intro h
    by_cases hd : 1073741789 ∣ n
    · exact Nat.mod_eq_zero_of_dvd hd
    · have hc := pr_coprime prQ hd
      have := one_gcd 2147483579 4 (by decide) 1073741789 n pw4Q h
      rw [show Nat.gcd 1073741789 n = 1 from hc, pw_one] at this
      exact absurd this (by decide)
  · intro h
    obtain ⟨c, rfl⟩ := Nat.dvd_of_mod_eq_zero h
    rw [← pw_pow, pw4Q, one_pw _ _ (by decide)]
theorem pw4_add (a b : Nat) : pwN 2147483579 4 (a + 1073741789 * b) = pwN 2147483579 4 a := by
  rw [← pw_mul, (pw4_one (1073741789 * b)).2 (Nat.mul_mod_right _ _), Nat.mul_one, pwN_eq, Nat.mod_mod]
theorem pw4_mod (a : Nat) : pwN 2147483579 4 (a % 1073741789) = pwN 2147483579 4 a := by
  have := pw4_add (a % 1073741789) (a / 1073741789)
  rw [← this]
  congr 1
  omega
theorem pw4_le (a d : Nat) (h : pwN 2147483579 4 a = pwN 2147483579 4 (a + d)) : d % 1073741789 = 0 := by
  rw [← pw4_one]
  have hm := pw_mul 2147483579 4 a d
  rw [← h] at hm
  have hl := pw_lt 2147483579 4 d (by decide)
  have hla := pw_lt 2147483579 4 a (by decide)
  have hd0 : 0 < pwN 2147483579 4 d := by
    rcases Nat.eq_zero_or_pos (pwN 2147483579 4 d) with h1 | h1
    · exact absurd (by rw [h1]; exact Nat.dvd_zero _) (pw4_ne d)
    · exact h1
  have hdv : 2147483579 ∣ pwN 2147483579 4 a * (pwN 2147483579 4 d - 1) := by
    rw [Nat.mul_sub, Nat.mul_one]
    refine dvd_sub_of (Nat.le_mul_of_pos_right _ hd0) ?_
    rw [hm, Nat.mod_eq_of_lt hla]
  rcases pr_mul prM hdv with h1 | h1
  · exact absurd h1 (pw4_ne a)
  · rcases Nat.eq_zero_or_pos (pwN 2147483579 4 d - 1) with h2 | h2
    · omega
    · have := Nat.le_of_dvd h2 h1
      omega
/-- Powers of the base are equal exactly if the exponents agree modulo the order. -/
theorem pw4_iff (a b : Nat) : pwN 2147483579 4 a = pwN 2147483579 4 b ↔ a % 1073741789 = b % 1073741789 := by
  constructor
  · intro h
    rcases Nat.le_total a b with hle | hle
    · obtain ⟨d, rfl⟩ := Nat.exists_eq_add_of_le hle
      have := pw4_le a d h
      omega
    · obtain ⟨d, rfl⟩ := Nat.exists_eq_add_of_le hle
      have := pw4_le b d h.symm
      omega
  · intro h
    rw [← pw4_mod a, ← pw4_mod b, h]
theorem fermatM (x : Nat) (h0 : 0 < x) (h1 : x < 2147483579) : pwN 2147483579 x 2147483578 = 1 := by
  exact fermat_pw prM x h0 h1
theorem inverseQ (x : Nat) (h0 : 0 < x) (h1 : x < 1073741789) : pwN 1073741789 x 1073741787 * x % 1073741789 = 1 := by
  rw [pw_succ]
  exact fermat_pw prQ x h0 h1
/-- A factor that is no multiple of the order can be taken away. -/
theorem cancelQ (k a b : Nat) (hk0 : 0 < k) (hk1 : k < 1073741789) (ha : a < 1073741789) (hb : b < 1073741789) (h : a * k % 1073741789 = b * k % 1073741789) : a = b := by
  have hk : ¬ 1073741789 ∣ k := fun h => by have := Nat.le_of_dvd hk0 h; omega
  have key : ∀ x y, x ≤ y → y < 1073741789 → x * k % 1073741789 = y * k % 1073741789 → x = y := by
    intro x y hle hy e
    have hd := dvd_sub_of (Nat.mul_le_mul_right k hle) e
    rw [← Nat.sub_mul] at hd
    rcases pr_mul prQ hd with h1 | h1
    · rcases Nat.eq_zero_or_pos (y - x) with h2 | h2
      · omega
      · have := Nat.le_of_dvd h2 h1
        omega
    · exact absurd h1 hk
  rcases Nat.le_total a b with hle | hle
  · exact key a b hle hb h
  · exact (key b a hle ha h.symm).symm
end Go.Proofs.YtdikoffppjoomaaGreat.Nt
