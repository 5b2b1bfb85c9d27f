/- Plain number theory: primes, Fermat's theorem, powers modulo a prime, for the group of the signatures. No program in sight. -/

namespace Go.Proofs.YtdikoffppjoomaaGreat.Nt

/-- A prime number. -/
def Pr (p : Nat) : Prop := 2 ≤ p ∧ ∀ a, a ∣ p → a = 1 ∨ a = p

/-- No number from lo on, 2 ^ k of them, divides p. -/
def allnd (p : Nat) : Nat → Nat → Bool
  | 0, lo => !(p % lo == 0)
  | k + 1, lo => allnd p k lo && allnd p k (lo + 2 ^ k)
theorem allnd_at (p : Nat) : ∀ k lo, allnd p k lo = true → ∀ d, lo ≤ d → d < lo + 2 ^ k → ¬ d ∣ p
  | 0, lo, h, d, h1, h2, hd => by
    obtain rfl : d = lo := by simp at h2; omega
    simp [allnd] at h
    exact h (Nat.mod_eq_zero_of_dvd hd)
  | k + 1, lo, h, d, h1, h2, hd => by
    simp only [allnd, Bool.and_eq_true] at h
    by_cases hc : d < lo + 2 ^ k
    · exact allnd_at p k lo h.1 d h1 hc hd
    · exact allnd_at p k _ h.2 d (by omega) (by rw [Nat.pow_succ] at h2; omega) hd
theorem pr_of (p k : Nat) (h2 : 2 ≤ p) (hk : p < (2 + 2 ^ k) * (2 + 2 ^ k)) (h : allnd p k 2 = true) : Pr p := by
  refine ⟨h2, fun a ha => ?_⟩
  obtain ⟨b, hb⟩ := ha
  have key : ∀ x y, p = x * y → x ≤ y → x = 1 ∨ x = p := by
    intro x y hxy hle
    by_cases h1 : x < 2
    · left
      rcases Nat.lt_or_ge x 1 with h0 | h0
      · have : x = 0 := by omega
        subst this; simp at hxy; omega
      · omega
    · exfalso
      have hx : x < 2 + 2 ^ k := by
        rcases Nat.lt_or_ge x (2 + 2 ^ k) with hl | hl
        · exact hl
        · have := Nat.mul_le_mul hl (Nat.le_trans hl hle)
          omega
      exact allnd_at p k 2 h x (by omega) hx ⟨y, hxy⟩
  rcases Nat.le_total a b with hle | hle
  · exact key a b hb hle
  · rcases key b a (by rw [hb, Nat.mul_comm]) hle with h1 | h1
    · right; subst h1; omega
    · left
      have hp : 0 < p := by omega
      rw [h1] at hb
      have : a * p = 1 * p := by omega
      exact Nat.eq_of_mul_eq_mul_right hp this
theorem pr_coprime {p a : Nat} (h : Pr p) (ha : ¬ p ∣ a) : Nat.Coprime p a := by
  rcases h.2 (Nat.gcd p a) (Nat.gcd_dvd_left p a) with h1 | h1
  · exact h1
  · exact absurd (h1 ▸ Nat.gcd_dvd_right p a) ha
theorem pr_mul {p a b : Nat} (h : Pr p) (hd : p ∣ a * b) : p ∣ a ∨ p ∣ b := by
  by_cases ha : p ∣ a
  · exact .inl ha
  · exact .inr ((pr_coprime h ha).dvd_of_dvd_mul_left hd)

/-- Binomial coefficients. -/
def ch : Nat → Nat → Nat
  | _, 0 => 1
  | 0, _ + 1 => 0
  | n + 1, k + 1 => ch n k + ch n (k + 1)
theorem ch_zero (n : Nat) : ch n 0 = 1 := by cases n <;> rfl
theorem ch_mul : ∀ n k, (k + 1) * ch (n + 1) (k + 1) = (n + 1) * ch n k
  | 0, 0 => rfl
  | 0, k + 1 => by simp [ch]
  | n + 1, 0 => by
    have h := ch_mul n 0
    have e1 : ch (n + 1 + 1) (0 + 1) = ch (n + 1) 0 + ch (n + 1) (0 + 1) := rfl
    have e2 := ch_zero (n + 1)
    have e3 := ch_zero n
    rw [e3] at h
    rw [e1, e2]
    omega
  | n + 1, k + 1 => by
    have h1 := ch_mul n k
    have h2 := ch_mul n (k + 1)
    have e : ch (n + 1 + 1) (k + 1 + 1) = ch (n + 1) (k + 1) + ch (n + 1) (k + 1 + 1) := rfl
    have e2 : ch (n + 1) (k + 1) = ch n k + ch n (k + 1) := rfl
    rw [e, Nat.mul_add, h2, show (k + 1 + 1) * ch (n + 1) (k + 1) = (k + 1) * ch (n + 1) (k + 1) + ch (n + 1) (k + 1) from by rw [Nat.succ_mul], h1]
    rw [e2, show (n + 1 + 1) * (ch n k + ch n (k + 1)) = (n + 1) * (ch n k + ch n (k + 1)) + (ch n k + ch n (k + 1)) from by rw [Nat.succ_mul], Nat.mul_add]
    omega
theorem ch_past : ∀ n k, n < k → ch n k = 0
  | 0, k + 1, _ => rfl
  | n + 1, k + 1, h => by
    show ch n k + ch n (k + 1) = 0
    rw [ch_past n k (by omega), ch_past n (k + 1) (by omega)]
theorem ch_self : ∀ n, ch n n = 1
  | 0 => rfl
  | n + 1 => by
    show ch n n + ch n (n + 1) = 1
    rw [ch_self n, ch_past n (n + 1) (by omega)]
theorem ch_dvd {p : Nat} (h : Pr p) (k : Nat) (h0 : 0 < k) (hk : k < p) : p ∣ ch p k := by
  obtain ⟨q, rfl⟩ : ∃ q, p = q + 1 := ⟨p - 1, by have := h.1; omega⟩
  obtain ⟨j, rfl⟩ : ∃ j, k = j + 1 := ⟨k - 1, by omega⟩
  have hm := ch_mul q j
  have : (q + 1) ∣ (j + 1) * ch (q + 1) (j + 1) := ⟨ch q j, hm⟩
  rcases pr_mul h this with h1 | h1
  · have := Nat.le_of_dvd (by omega) h1
    omega
  · exact h1
/-- The first terms of the binomial sum. -/
def bs (a n : Nat) : Nat → Nat
  | 0 => 0
  | m + 1 => bs a n m + ch n m * a ^ m
theorem bs_step (a n : Nat) : ∀ m, bs a (n + 1) (m + 1) = a * bs a n m + bs a n (m + 1)
  | 0 => by simp [bs, ch_zero]
  | m + 1 => by
    have ih := bs_step a n m
    have e1 : bs a (n + 1) (m + 1 + 1) = bs a (n + 1) (m + 1) + ch (n + 1) (m + 1) * a ^ (m + 1) := rfl
    have e2 : bs a n (m + 1) = bs a n m + ch n m * a ^ m := rfl
    have e3 : bs a n (m + 1 + 1) = bs a n (m + 1) + ch n (m + 1) * a ^ (m + 1) := rfl
    have e4 : ch (n + 1) (m + 1) = ch n m + ch n (m + 1) := rfl
    rw [e1, ih, e3, e4, Nat.add_mul]
    have : a * bs a n (m + 1) = a * bs a n m + ch n m * a ^ (m + 1) := by
      rw [e2, Nat.mul_add, Nat.pow_succ]
      congr 1
      rw [← Nat.mul_assoc, Nat.mul_comm a, Nat.mul_assoc, Nat.mul_comm a]
    rw [this]
    omega
theorem bs_eq (a : Nat) : ∀ n, bs a n (n + 1) = (a + 1) ^ n
  | 0 => rfl
  | n + 1 => by
    have ih := bs_eq a n
    rw [bs_step a n (n + 1), Nat.pow_succ, ← ih]
    have e3 : bs a n (n + 1 + 1) = bs a n (n + 1) + ch n (n + 1) * a ^ (n + 1) := rfl
    rw [e3, ch_past n (n + 1) (by omega)]
    rw [Nat.mul_add, Nat.mul_comm a]
    omega
theorem bs_mod {p : Nat} (h : Pr p) (a : Nat) : ∀ m, 1 ≤ m → m ≤ p → bs a p m % p = 1 % p
  | 1, _, _ => by
    show (0 + ch p 0 * a ^ 0) % p = _
    rw [ch_zero]; simp
  | m + 2, _, hm => by
    have ih := bs_mod h a (m + 1) (by omega) (by omega)
    show (bs a p (m + 1) + ch p (m + 1) * a ^ (m + 1)) % p = _
    obtain ⟨q, hq⟩ := ch_dvd h (m + 1) (by omega) (by omega)
    rw [hq, Nat.mul_assoc, Nat.add_mul_mod_self_left]
    exact ih
theorem pow_p_succ {p : Nat} (h : Pr p) (a : Nat) : (a + 1) ^ p % p = (a ^ p + 1) % p := by
  rw [← bs_eq a p]
  have h2 := h.1
  have e : bs a p (p + 1) = bs a p p + ch p p * a ^ p := rfl
  rw [e, ch_self, Nat.one_mul, Nat.add_mod, bs_mod h a p (by omega) (Nat.le_refl _), Nat.add_comm (a ^ p) 1, Nat.add_mod 1]
theorem pow_p {p : Nat} (h : Pr p) : ∀ a, a ^ p % p = a % p
  | 0 => by have := h.1; rw [Nat.zero_pow (by omega)]
  | a + 1 => by rw [pow_p_succ h a, Nat.add_mod, pow_p h a, ← Nat.add_mod]
theorem dvd_sub_of {a b n : Nat} (h : a ≤ b) (e : a % n = b % n) : n ∣ b - a := by
  obtain ⟨c, rfl⟩ := Nat.exists_eq_add_of_le h
  rw [Nat.add_sub_cancel_left]
  have h1 := Nat.div_add_mod a n
  have h2 := Nat.div_add_mod (a + c) n
  refine ⟨(a + c) / n - a / n, ?_⟩
  rw [Nat.mul_sub]
  omega
theorem mod_of_dvd_sub {a b n : Nat} (h : a ≤ b) (e : n ∣ b - a) : a % n = b % n := by
  obtain ⟨c, hc⟩ := e
  have : b = a + n * c := by omega
  rw [this, Nat.add_mul_mod_self_left]
/-- Fermat's theorem. -/
theorem fermat {p : Nat} (h : Pr p) (a : Nat) (ha : ¬ p ∣ a) : a ^ (p - 1) % p = 1 := by
  have h2 := h.1
  have hp := pow_p h a
  obtain ⟨q, rfl⟩ : ∃ q, p = q + 1 := ⟨p - 1, by omega⟩
  rw [Nat.add_sub_cancel]
  have ha0 : 0 < a := by
    rcases Nat.eq_zero_or_pos a with h0 | h0
    · subst h0; exact absurd (Nat.dvd_zero _) ha
    · exact h0
  have hpos : 1 ≤ a ^ q := Nat.pow_pos ha0
  have hd : (q + 1) ∣ a * (a ^ q - 1) := by
    have e : a * (a ^ q - 1) = a ^ (q + 1) - a := by rw [Nat.mul_sub, Nat.pow_succ, Nat.mul_one, Nat.mul_comm]
    rw [e]
    have hle : a ≤ a ^ (q + 1) := by rw [Nat.pow_succ]; exact Nat.le_mul_of_pos_left a hpos
    exact dvd_sub_of hle hp.symm
  rcases pr_mul h hd with h1 | h1
  · exact absurd h1 ha
  · have := mod_of_dvd_sub hpos h1
    have h3 : 1 % (q + 1) = a ^ q % (q + 1) := this
    rw [← h3, Nat.mod_eq_of_lt (by omega)]
end Go.Proofs.YtdikoffppjoomaaGreat.Nt
namespace Go.Proofs.YtdikoffppjoomaaGreat.Nt

theorem prM : Pr 2147483579 := pr_of _ 16 (by decide) (by decide) (by decide +kernel)
theorem prQ : Pr 1073741789 := pr_of _ 15 (by decide) (by decide) (by decide +kernel)

theorem pwN_ex : ∃ f : Nat → Nat → Nat → Nat, ∀ m x n, f m x n = x ^ n % m := ⟨fun m x n => x ^ n % m, fun _ _ _ => rfl⟩
/-- x to the power n modulo m (chosen, so that nothing unfolds it). -/
noncomputable def pwN : Nat → Nat → Nat → Nat := Classical.choose pwN_ex
theorem pwN_eq (m x n : Nat) : pwN m x n = x ^ n % m := Classical.choose_spec pwN_ex m x n

theorem pw_lt (m x n : Nat) (h : 0 < m) : pwN m x n < m := by rw [pwN_eq]; exact Nat.mod_lt _ h
theorem pw_zero (m x : Nat) (h : 1 < m) : pwN m x 0 = 1 := by rw [pwN_eq, Nat.pow_zero, Nat.mod_eq_of_lt h]
theorem pw_mul (m x a b : Nat) : pwN m x a * pwN m x b % m = pwN m x (a + b) := by rw [pwN_eq, pwN_eq, pwN_eq, ← Nat.mul_mod, Nat.pow_add]
theorem pw_pow (m x a b : Nat) : pwN m (pwN m x a) b = pwN m x (a * b) := by rw [pwN_eq, pwN_eq, pwN_eq, ← Nat.pow_mod, Nat.pow_mul]
theorem pw_mod (m x n : Nat) : pwN m (x % m) n = pwN m x n := by rw [pwN_eq, pwN_eq, ← Nat.pow_mod]
/-- One step of the loop of Power. -/
theorem pw_step (m r x n : Nat) : (if n % 2 = 1 then r * x % m else r) * pwN m (x * x % m) (n / 2) % m = r * pwN m x n % m := by
  have e : pwN m (x * x % m) (n / 2) = x ^ (2 * (n / 2)) % m := by
    rw [pwN_eq, ← Nat.pow_mod, Nat.pow_mul, Nat.pow_two]
  rw [e, pwN_eq]
  by_cases h : n % 2 = 1
  · rw [if_pos h, ← Nat.mul_mod, Nat.mul_assoc, Nat.mul_mod r (x ^ n % m), Nat.mod_mod, ← Nat.mul_mod]
    have : x * x ^ (2 * (n / 2)) = x ^ n := by
      rw [Nat.mul_comm, ← Nat.pow_succ]
      congr 1
      omega
    rw [this]
  · rw [if_neg h, show 2 * (n / 2) = n by omega]
theorem pw_two (m x n : Nat) : pwN m x n = (if n % 2 = 1 then pwN m (x * x % m) (n / 2) * x % m else pwN m (x * x % m) (n / 2)) := by
  have e : pwN m (x * x % m) (n / 2) = x ^ (2 * (n / 2)) % m := by
    rw [pwN_eq, ← Nat.pow_mod, Nat.pow_mul, Nat.pow_two]
  rw [e, pwN_eq]
  by_cases h : n % 2 = 1
  · rw [if_pos h, Nat.mod_mul_mod, ← Nat.pow_succ]
    congr 2
    omega
  · rw [if_neg h]
    congr 2
    omega

/-- A power reckoned by squaring, for numerals. -/
def fp (m : Nat) : Nat → Nat → Nat → Nat → Nat
  | 0, _, _, r => r
  | f + 1, x, n, r => fp m f (x * x % m) (n / 2) (if n % 2 = 1 then r * x % m else r)
theorem fp_eq (m : Nat) : ∀ f x n r, n < 2 ^ f → fp m f x n r % m = r * pwN m x n % m
  | 0, x, n, r, h => by
    obtain rfl : n = 0 := by simp at h; omega
    rw [pwN_eq]; simp [fp]
  | f + 1, x, n, r, h => by
    show fp m f _ _ _ % m = _
    rw [fp_eq m f _ _ _ (by rw [Nat.pow_succ] at h; omega), pw_step]
theorem pw_mm (m x n : Nat) : pwN m x n % m = pwN m x n := by rw [pwN_eq, Nat.mod_mod]
theorem one_pw (m n : Nat) (hm : 1 < m) : pwN m 1 n = 1 := by rw [pwN_eq, Nat.one_pow, Nat.mod_eq_of_lt hm]
theorem zero_pw (m n : Nat) (hn : 0 < n) : pwN m 0 n = 0 := by rw [pwN_eq, Nat.zero_pow hn, Nat.zero_mod]
theorem pw_one (m x : Nat) : pwN m x 1 = x % m := by rw [pwN_eq, Nat.pow_one]
theorem fermat_pw {p : Nat} (h : Pr p) (x : Nat) (h0 : 0 < x) (h1 : x < p) : pwN p x (p - 1) = 1 := by
  rw [pwN_eq]
  exact fermat h x (fun h => by have := Nat.le_of_dvd h0 h; omega)
theorem pw_succ (m x n : Nat) : pwN m x n * x % m = pwN m x (n + 1) := by rw [pwN_eq, pwN_eq, Nat.mod_mul_mod, ← Nat.pow_succ]
theorem fp_pw (m f x n : Nat) (h : n < 2 ^ f) : pwN m x n = fp m f x n 1 % m := by rw [fp_eq m f x n 1 h, Nat.one_mul, pw_mm]
theorem pw4Q : pwN 2147483579 4 1073741789 = 1 := by
  rw [fp_pw _ 31 _ _ (by decide)]
  decide +kernel

/-- Exponents at which a power is 1 are closed under the greatest common divisor. -/
theorem one_gcd (m x : Nat) (hm : 1 < m) (a b : Nat) : pwN m x a = 1 → pwN m x b = 1 → pwN m x (Nat.gcd a b) = 1 := by
  induction a, b using Nat.gcd.induction with
  | H0 n => intro _ h; rw [Nat.gcd_zero_left]; exact h
  | H1 a b ha ih =>
    intro h1 h2
    rw [Nat.gcd_rec]
    refine ih ?_ h1
    have e : pwN m x b = pwN m x (b % a) := by
      have := pw_mul m x (a * (b / a)) (b % a)
      rw [Nat.div_add_mod] at this
      rw [← this, ← pw_pow, h1, pwN_eq m 1, Nat.one_pow, Nat.mod_eq_of_lt hm, Nat.one_mul, pwN_eq, Nat.mod_mod]
    rw [← e]; exact h2
theorem pw4_ne (n : Nat) : ¬ 2147483579 ∣ pwN 2147483579 4 n := by
  intro h
  have hl := pw_lt 2147483579 4 n (by decide)
  have h0 : pwN 2147483579 4 n = 0 := by
    rcases Nat.eq_zero_or_pos (pwN 2147483579 4 n) with h1 | h1
    · exact h1
    · have := Nat.le_of_dvd h1 h
      omega
  have := pw_pow 2147483579 4 n 1073741789
  rw [h0, Nat.mul_comm, ← pw_pow, pw4Q, zero_pw _ _ (by decide), one_pw _ _ (by decide)] at this
  exact absurd this (by decide)
theorem pw4_one (n : Nat) : pwN 2147483579 4 n = 1 ↔ n % 1073741789 = 0 := by
  constructor
  · intro h
    by_cases hd : 1073741789 ∣ n
    · exact Nat.mod_eq_zero_of_dvd hd
    · have hc := pr_coprime prQ hd
      have := one_gcd 2147483579 4 (by decide) 1073741789 n pw4Q h
      rw [show Nat.gcd 1073741789 n = 1 from hc, pw_one] at this
      exact absurd this (by decide)
  · intro h
    obtain ⟨c, rfl⟩ := Nat.dvd_of_mod_eq_zero h
    rw [← pw_pow, pw4Q, one_pw _ _ (by decide)]
theorem pw4_add (a b : Nat) : pwN 2147483579 4 (a + 1073741789 * b) = pwN 2147483579 4 a := by
  rw [← pw_mul, (pw4_one (1073741789 * b)).2 (Nat.mul_mod_right _ _), Nat.mul_one, pwN_eq, Nat.mod_mod]
theorem pw4_mod (a : Nat) : pwN 2147483579 4 (a % 1073741789) = pwN 2147483579 4 a := by
  have := pw4_add (a % 1073741789) (a / 1073741789)
  rw [← this]
  congr 1
  omega
theorem pw4_le (a d : Nat) (h : pwN 2147483579 4 a = pwN 2147483579 4 (a + d)) : d % 1073741789 = 0 := by
  rw [← pw4_one]
  have hm := pw_mul 2147483579 4 a d
  rw [← h] at hm
  have hl := pw_lt 2147483579 4 d (by decide)
  have hla := pw_lt 2147483579 4 a (by decide)
  have hd0 : 0 < pwN 2147483579 4 d := by
    rcases Nat.eq_zero_or_pos (pwN 2147483579 4 d) with h1 | h1
    · exact absurd (by rw [h1]; exact Nat.dvd_zero _) (pw4_ne d)
    · exact h1
  have hdv : 2147483579 ∣ pwN 2147483579 4 a * (pwN 2147483579 4 d - 1) := by
    rw [Nat.mul_sub, Nat.mul_one]
    refine dvd_sub_of (Nat.le_mul_of_pos_right _ hd0) ?_
    rw [hm, Nat.mod_eq_of_lt hla]
  rcases pr_mul prM hdv with h1 | h1
  · exact absurd h1 (pw4_ne a)
  · rcases Nat.eq_zero_or_pos (pwN 2147483579 4 d - 1) with h2 | h2
    · omega
    · have := Nat.le_of_dvd h2 h1
      omega
/-- Powers of the base are equal exactly if the exponents agree modulo the order. -/
theorem pw4_iff (a b : Nat) : pwN 2147483579 4 a = pwN 2147483579 4 b ↔ a % 1073741789 = b % 1073741789 := by
  constructor
  · intro h
    rcases Nat.le_total a b with hle | hle
    · obtain ⟨d, rfl⟩ := Nat.exists_eq_add_of_le hle
      have := pw4_le a d h
      omega
    · obtain ⟨d, rfl⟩ := Nat.exists_eq_add_of_le hle
      have := pw4_le b d h.symm
      omega
  · intro h
    rw [← pw4_mod a, ← pw4_mod b, h]
theorem fermatM (x : Nat) (h0 : 0 < x) (h1 : x < 2147483579) : pwN 2147483579 x 2147483578 = 1 := by
  exact fermat_pw prM x h0 h1
theorem inverseQ (x : Nat) (h0 : 0 < x) (h1 : x < 1073741789) : pwN 1073741789 x 1073741787 * x % 1073741789 = 1 := by
  rw [pw_succ]
  exact fermat_pw prQ x h0 h1
/-- A factor that is no multiple of the order can be taken away. -/
theorem cancelQ (k a b : Nat) (hk0 : 0 < k) (hk1 : k < 1073741789) (ha : a < 1073741789) (hb : b < 1073741789) (h : a * k % 1073741789 = b * k % 1073741789) : a = b := by
  have hk : ¬ 1073741789 ∣ k := fun h => by have := Nat.le_of_dvd hk0 h; omega
  have key : ∀ x y, x ≤ y → y < 1073741789 → x * k % 1073741789 = y * k % 1073741789 → x = y := by
    intro x y hle hy e
    have hd := dvd_sub_of (Nat.mul_le_mul_right k hle) e
    rw [← Nat.sub_mul] at hd
    rcases pr_mul prQ hd with h1 | h1
    · rcases Nat.eq_zero_or_pos (y - x) with h2 | h2
      · omega
      · have := Nat.le_of_dvd h2 h1
        omega
    · exact absurd h1 hk
  rcases Nat.le_total a b with hle | hle
  · exact key a b hle hb h
  · exact (key b a hle ha h.symm).symm
end Go.Proofs.YtdikoffppjoomaaGreat.Nt
