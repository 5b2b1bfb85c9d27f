/- Plain number theory: primes, Fermat's theorem, powers modulo a prime, for the group of the signatures. No program in sight. -/
namespace Go.Proofs.YtdikoffppjoomaaGreat.Nt

/-- A prime number. -/
def Pr (p : Nat) : Prop := 2 ≤ p ∧ ∀ a, a ∣ p → a = 1 ∨ a = p

/-- No number from lo on, 2 ^ k of them, divides p. -/
def allnd (p : Nat) : Nat → Nat → Bool
  | 0, lo => !(p % lo == 0)
  | k + 1, lo => allnd p k lo && allnd p k (lo + 2 ^ k)
theorem allnd_at (p : Nat) : ∀ k lo, allnd p k lo = true → ∀ d, lo ≤ d → d < lo + 2 ^ k → ¬ d ∣ p
  | 0, lo, h, d, h1, h2, hd => by
    obtain rfl : d = lo := by simp at h2; omega
    simp [allnd] at h
    exact h (Nat.mod_eq_zero_of_dvd hd)
  | k + 1, lo, h, d, h1, h2, hd => by
    simp only [allnd, Bool.and_eq_true] at h
    by_cases hc : d < lo + 2 ^ k
    · exact allnd_at p k lo h.1 d h1 hc hd
    · exact allnd_at p k _ h.2 d (by omega) (by rw [Nat.pow_succ] at h2; omega) hd
theorem pr_of (p k : Nat) (h2 : 2 ≤ p) (hk : p < (2 + 2 ^ k) * (2 + 2 ^ k)) (h : allnd p k 2 = true) : Pr p := by
  refine ⟨h2, fun a ha => ?_⟩
  obtain ⟨b, hb⟩ := ha
  have key : ∀ x y, p = x * y → x ≤ y → x = 1 ∨ x = p := by
    intro x y hxy hle
    by_cases h1 : x < 2
    · left
      rcases Nat.lt_or_ge x 1 with h0 | h0
      · have : x = 0 := by omega
        subst this; simp at hxy; omega
      · omega
    · exfalso
      have hx : x < 2 + 2 ^ k := by
        rcases Nat.lt_or_ge x (2 + 2 ^ k) with hl | hl
        · exact hl
        · have := Nat.mul_le_mul hl (Nat.le_trans hl hle)
          omega
      exact allnd_at p k 2 h x (by omega) hx ⟨y, hxy⟩
  rcases Nat.le_total a b with hle | hle
  · exact key a b hb hle
  · rcases key b a (by rw [hb, Nat.mul_comm]) hle with h1 | h1
    · right; subst h1; omega
    · left
      have hp : 0 < p := by omega
      rw [h1] at hb
      have : a * p = 1 * p := by omega
      exact Nat.eq_of_mul_eq_mul_right hp this
theorem pr_coprime {p a : Nat} (h : Pr p) (ha : ¬ p ∣ a) : Nat.Coprime p a := by
  rcases h.2 (Nat.gcd p a) (Nat.gcd_dvd_left p a) with h1 | h1
  · exact h1
  · exact absurd (h1 ▸ Nat.gcd_dvd_right p a) ha
theorem pr_mul {p a b : Nat} (h : Pr p) (hd : p ∣ a * b) : p ∣ a ∨ p ∣ b := by
  by_cases ha : p ∣ a
  · exact .inl ha
  · exact .inr ((pr_coprime h ha).dvd_of_dvd_mul_left hd)

/-- Binomial coefficients. -/
def ch : Nat → Nat → Nat
  | _, 0 => 1
  | 0, _ + 1 => 0
  | n + 1, k + 1 => ch n k + ch n (k + 1)
theorem ch_zero (n : Nat) : ch n 0 = 1 := by cases n <;> rfl
theorem ch_mul : ∀ n k, (k + 1) * ch (n + 1) (k + 1) = (n + 1) * ch n k
  | 0, 0 => rfl
  | 0, k + 1 => by simp [ch]
  | n + 1, 0 => by
    have h := ch_mul n 0
    have e1 : ch (n + 1 + 1) (0 + 1) = ch (n + 1) 0 + ch (n + 1) (0 + 1) := rfl
    have e2 := ch_zero (n + 1)
    have e3 := ch_zero n
    rw [e3] at h
    rw [e1, e2]
    omega
  | n + 1, k + 1 => by
    have h1 := ch_mul n k
    have h2 := ch_mul n (k + 1)
    have e : ch (n + 1 + 1) (k + 1 + 1) = ch (n + 1) (k + 1) + ch (n + 1) (k + 1 + 1) := rfl
    have e2 : ch (n + 1) (k + 1) = ch n k + ch n (k + 1) := rfl
    rw [e, Nat.mul_add, h2, show (k + 1 + 1) * ch (n + 1) (k + 1) = (k + 1) * ch (n + 1) (k + 1) + ch (n + 1) (k + 1) from by rw [Nat.succ_mul], h1]
    rw [e2, show (n + 1 + 1) * (ch n k + ch n (k + 1)) = (n + 1) * (ch n k + ch n (k + 1)) + (ch n k + ch n (k + 1)) from by rw [Nat.succ_mul], Nat.mul_add]
    omega
theorem ch_past : ∀ n k, n < k → ch n k = 0
  | 0, k + 1, _ => rfl
  | n + 1, k + 1, h => by
    show ch n k + ch n (k + 1) = 0
    rw [ch_past n k (by omega), ch_past n (k + 1) (by omega)]
theorem ch_self : ∀ n, ch n n = 1
  | 0 => rfl
  | n + 1 => by
    show ch n n + ch n (n + 1) = 1
    rw [ch_self n, ch_past n (n + 1) (by omega)]
theorem ch_dvd {p : Nat} (h : Pr p) (k : Nat) (h0 : 0 < k) (hk : k < p) : p ∣ ch p k := by
  obtain ⟨q, rfl⟩ : ∃ q, p = q + 1 := ⟨p - 1, by have := h.1; omega⟩
  obtain ⟨j, rfl⟩ : ∃ j, k = j + 1 := ⟨k - 1, by omega⟩
  have hm := ch_mul q j
  have : (q + 1) ∣ (j + 1) * ch (q + 1) (j + 1) := ⟨ch q j, hm⟩
  rcases pr_mul h this with h1 | h1
  · have := Nat.le_of_dvd (by omega) h1
    omega
  · exact h1
/-- The first terms of the binomial sum. -/
def bs (a n : Nat) : Nat → Nat
  | 0 => 0
  | m + 1 => bs a n m + ch n m * a ^ m
theorem bs_step (a n : Nat) : ∀ m, bs a (n + 1) (m + 1) = a * bs a n m + bs a n (m + 1)
  | 0 => by simp [bs, ch_zero]
  | m + 1 => by
    have ih := bs_step a n m
    have e1 : bs a (n + 1) (m + 1 + 1) = bs a (n + 1) (m + 1) + ch (n + 1) (m + 1) * a ^ (m + 1) := rfl
    have e2 : bs a n (m + 1) = bs a n m + ch n m * a ^ m := rfl
    have e3 : bs a n (m + 1 + 1) = bs a n (m + 1) + ch n (m + 1) * a ^ (m + 1) := rfl
    have e4 : ch (n + 1) (m + 1) = ch n m + ch n (m + 1) := rfl
    rw [e1, ih, e3, e4, Nat.add_mul]
    have : a * bs a n (m + 1) = a * bs a n m + ch n m * a ^ (m + 1) := by
      rw [e2, Nat.mul_add, Nat.pow_succ]
      congr 1
      rw [← Nat.mul_assoc, Nat.mul_comm a, Nat.mul_assoc, Nat.mul_comm a]
    rw [this]
    omega
theorem bs_eq (a : Nat) : ∀ n, bs a n (n + 1) = (a + 1) ^ n
  | 0 => rfl
  | n + 1 => by
    have ih := bs_eq a n
    rw [bs_step a n (n + 1), Nat.pow_succ, ← ih]
    have e3 : bs a n (n + 1 + 1) = bs a n (n + 1) + ch n (n + 1) * a ^ (n + 1) := rfl
    rw [e3, ch_past n (n + 1) (by omega)]
    rw [Nat.mul_add, Nat.mul_comm a]
    omega
theorem bs_mod {p : Nat} (h : Pr p) (a : Nat) : ∀ m, 1 ≤ m → m ≤ p → bs a p m % p = 1 % p
  | 1, _, _ => by
    show (0 + ch p 0 * a ^ 0) % p = _
    rw [ch_zero]; simp
  | m + 2, _, hm => by
    have ih := bs_mod h a (m + 1) (by omega) (by omega)
    show (bs a p (m + 1) + ch p (m + 1) * a ^ (m + 1)) % p = _
    obtain ⟨q, hq⟩ := ch_dvd h (m + 1) (by omega) (by omega)
    rw [hq, Nat.mul_assoc, Nat.add_mul_mod_self_left]
    exact ih
theorem pow_p_succ {p : Nat} (h : Pr p) (a : Nat) : (a + 1) ^ p % p = (a ^ p + 1) % p := by
  rw [← bs_eq a p]
  have h2 := h.1
  have e : bs a p (p + 1) = bs a p p + ch p p * a ^ p := rfl
  rw [e, ch_self, Nat.one_mul, Nat.add_mod, bs_mod h a p (by omega) (Nat.le_refl _), Nat.add_comm (a ^ p) 1, Nat.add_mod 1]
theorem pow_p {p : Nat} (h : Pr p) : ∀ a, a ^ p % p = a % p
  | 0 => by have := h.1; rw [Nat.zero_pow (by omega)]
  | a + 1 => by rw [pow_p_succ h a, Nat.add_mod, pow_p h a, ← Nat.add_mod]
theorem dvd_sub_of {a b n : Nat} (h : a ≤ b) (e : a % n = b % n) : n ∣ b - a := by
  obtain ⟨c, rfl⟩ := Nat.exists_eq_add_of_le h
  rw [Nat.add_sub_cancel_left]
  have h1 := Nat.div_add_mod a n
  have h2 := Nat.div_add_mod (a + c) n
  refine ⟨(a + c) / n - a / n, ?_⟩
  rw [Nat.mul_sub]
  omega
theorem mod_of_dvd_sub {a b n : Nat} (h : a ≤ b) (e : n ∣ b - a) : a % n = b % n := by
  obtain ⟨c, hc⟩ := e
  have : b = a + n * c := by omega
  rw [this, Nat.add_mul_mod_self_left]
/-- Fermat's theorem. -/
theorem fermat {p : Nat} (h : Pr p) (a : Nat) (ha : ¬ p ∣ a) : a ^ (p - 1) % p = 1 := by
  have h2 := h.1
  have hp := pow_p h a
  obtain ⟨q, rfl⟩ : ∃ q, p = q + 1 := ⟨p - 1, by omega⟩
  rw [Nat.add_sub_cancel]
  have ha0 : 0 < a := by
    rcases Nat.eq_zero_or_pos a with h0 | h0
    · subst h0; exact absurd (Nat.dvd_zero _) ha
    · exact h0
  have hpos : 1 ≤ a ^ q := Nat.pow_pos ha0
  have hd : (q + 1) ∣ a * (a ^ q - 1) := by
    have e : a * (a ^ q - 1) = a ^ (q + 1) - a := by rw [Nat.mul_sub, Nat.pow_succ, Nat.mul_one, Nat.mul_comm]
    rw [e]
    have hle : a ≤ a ^ (q + 1) := by rw [Nat.pow_succ]; exact Nat.le_mul_of_pos_left a hpos
    exact dvd_sub_of hle hp.symm
  rcases pr_mul h hd with h1 | h1
  · exact absurd h1 ha
  · have := mod_of_dvd_sub hpos h1
    have h3 : 1 % (q + 1) = a ^ q % (q + 1) := this
    rw [← h3, Nat.mod_eq_of_lt (by omega)]
end Go.Proofs.YtdikoffppjoomaaGreat.Nt
