/- Plain mathematics: the candidate numbers that differ in one byte, by choices and by a search through the alphabet. No program in sight. -/
import Derived.Test.YtpdekglmmgecmaaIT
import Derived.Test.YtpdekglmmgecmaaUM
namespace Go.Proofs.Ytpdekglmmgecmaa.Id
open Go.RowKit
set_option linter.unusedVariables false
set_option linter.unusedSimpArgs false

/-- Nine bytes as a text. -/
def S9 (b : Nat → Int) : ByteArray := strOfNums [b 0, b 1, b 2, b 3, b 4, b 5, b 6, b 7, b 8]
def Bnd (b : Nat → Int) : Prop := ∀ i, i < 9 → 0 ≤ b i ∧ b i ≤ 255
theorem S9_size (b : Nat → Int) : (S9 b).size = 9 := by unfold S9; rw [strOfNums_size]; rfl
theorem byt_S9 {b : Nat → Int} (hb : Bnd b) (i : Nat) (h : i < 9) : byt (S9 b) i = b i := byt_nine b hb i h
theorem S9_byt (s : ByteArray) (hl : s.size = 9) : S9 (byt s) = s := str9 s hl
theorem bnd_byt (s : ByteArray) : Bnd (byt s) := fun i _ => byt_bd s i
theorem S9_congr {a b : Nat → Int} (h : ∀ i, i < 9 → a i = b i) : S9 a = S9 b := by
  unfold S9
  rw [h 0 (by omega), h 1 (by omega), h 2 (by omega), h 3 (by omega), h 4 (by omega), h 5 (by omega), h 6 (by omega), h 7 (by omega), h 8 (by omega)]
theorem S9_inj {a b : Nat → Int} (ha : Bnd a) (hb : Bnd b) (h : S9 a = S9 b) (i : Nat) (hi : i < 9) : a i = b i := by
  rw [← byt_S9 ha i hi, ← byt_S9 hb i hi, h]
theorem bnd_upd {b : Nat → Int} {i : Nat} {c : Int} (hb : Bnd b) (hc : 0 ≤ c ∧ c ≤ 255) : Bnd (upd b i c) := fun j hj => by
  unfold upd
  split
  · exact hc
  · exact hb j hj
theorem upd_same (b : Nat → Int) (i : Nat) (c : Int) : upd b i c i = c := if_pos rfl
theorem upd_other (b : Nat → Int) {i j : Nat} (c : Int) (h : j ≠ i) : upd b i c j = b j := if_neg h
theorem S9_upd {b : Nat → Int} {i : Nat} {c : Int} (hb : Bnd b) (hc : 0 ≤ c ∧ c ≤ 255) (hi : i < 9) : S9 (upd b i c) = S9 b ↔ c = b i := by
  constructor
  · intro h
    have := S9_inj (bnd_upd hb hc) hb h i hi
    rwa [upd_same] at this
  · intro h
    exact S9_congr fun j hj => by
      by_cases e : j = i
      · subst e; rw [upd_same, h]
      · rw [upd_other b c e]

/-- How many bytes there are for a place, and which. -/
def cnt (i : Nat) : Nat := if i < 8 then 10 else 23
def chn (i k : Nat) : Int := if i < 8 then 48 + (k : Int) else let_ (k : Int)
theorem cnt_le (i : Nat) : cnt i ≤ 23 := by unfold cnt; split <;> omega
theorem let_b (k : Nat) (h : k < 23) : 65 ≤ let_ (k : Int) ∧ let_ (k : Int) ≤ 89 := let_bd' ⟨k, h⟩
theorem chn_bd (i k : Nat) (h : k < cnt i) : 48 ≤ chn i k ∧ chn i k ≤ 90 := by
  unfold cnt at h; unfold chn
  by_cases e : i < 8
  · rw [if_pos e] at h ⊢; omega
  · rw [if_neg e] at h ⊢; have := let_b k h; omega
/-- Whether a choice at a place makes another candidate number. -/
def okc (b : Nat → Int) (i : Nat) (c : Int) : Bool := decide (c ≠ b i) && decide (ltr (upd b i c) = upd b i c 8)
def rp (b : Nat → Int) (i : Nat) : Nat → List ByteArray
  | 0 => []
  | k + 1 => if okc b i (chn i k) = true then rp b i k ++ [S9 (upd b i (chn i k))] else rp b i k
theorem rp_yes {b : Nat → Int} {i k : Nat} (h : okc b i (chn i k) = true) : rp b i (k + 1) = rp b i k ++ [S9 (upd b i (chn i k))] := by rw [rp, if_pos h]
theorem rp_no {b : Nat → Int} {i k : Nat} (h : okc b i (chn i k) = false) : rp b i (k + 1) = rp b i k := by rw [rp, if_neg (by simp [h])]
theorem rp_len (b : Nat → Int) (i : Nat) : ∀ k, (rp b i k).length ≤ k
  | 0 => by simp [rp]
  | k + 1 => by have := rp_len b i k; unfold rp; split <;> (try rw [List.length_append]) <;> simp <;> omega
/-- Whether nine bytes are a candidate number. -/
def vl (b : Nat → Int) : Bool := formB b && decide (ltr b = b 8)
def wt (b : Nat → Int) (i : Nat) : Nat → List ByteArray
  | 0 => []
  | k + 1 => if vl (upd b i (48 + (k : Int))) = true then wt b i k ++ [S9 (upd b i (48 + (k : Int)))] else wt b i k
theorem wt_yes {b : Nat → Int} {i k : Nat} (h : vl (upd b i (48 + (k : Int))) = true) : wt b i (k + 1) = wt b i k ++ [S9 (upd b i (48 + (k : Int)))] := by rw [wt, if_pos h]
theorem wt_no {b : Nat → Int} {i k : Nat} (h : vl (upd b i (48 + (k : Int))) = false) : wt b i (k + 1) = wt b i k := by rw [wt, if_neg (by simp [h])]
theorem wt_len (b : Nat → Int) (i : Nat) : ∀ k, (wt b i k).length ≤ k
  | 0 => by simp [wt]
  | k + 1 => by have := wt_len b i k; unfold wt; split <;> (try rw [List.length_append]) <;> simp <;> omega
theorem formB_congr {a b : Nat → Int} (h : ∀ i, i < 9 → a i = b i) : formB a = formB b := by
  unfold formB
  rw [decide_eq_decide]
  exact ⟨fun x k hk => by rw [← h k hk]; exact x k hk, fun x k hk => by rw [h k hk]; exact x k hk⟩
theorem pe_S9 {b : Nat → Int} (hb : Bnd b) : pe (S9 b) = 0 ↔ vl b = true := by
  have e : ∀ i, i < 9 → byt (S9 b) i = b i := fun i h => byt_S9 hb i h
  have hf : formB (byt (S9 b)) = formB b := formB_congr e
  have hl : ltr (byt (S9 b)) = ltr b := ltr_congr _ _ fun i h => e i (by omega)
  unfold pe vl shpB
  rw [hf, hl, e 8 (by omega), S9_size]
  cases formB b
  · simp
  · by_cases h : ltr b = b 8
    · simp [h]
    · simp [h]
/-- All places but one fit. -/
def Fit1 (b : Nat → Int) (i : Nat) : Prop := ∀ j : Nat, j < 9 → j ≠ i → fitB j (b j) = true
theorem form_upd {b : Nat → Int} {i : Nat} {c : Int} (hi : i < 9) (h : Fit1 b i) : formB (upd b i c) = fitB i c := by
  unfold formB
  cases hc : fitB i c
  · refine decide_eq_false fun x => ?_
    have := x i hi
    rw [upd_same, hc] at this
    cases this
  · refine decide_eq_true fun k hk => ?_
    by_cases e : k = i
    · subst e; rw [upd_same]; exact hc
    · rw [upd_other b c e]; exact h k hk e
theorem vl_upd {b : Nat → Int} {i : Nat} {c : Int} (hi : i < 9) (h : Fit1 b i) : vl (upd b i c) = (fitB i c && decide (ltr (upd b i c) = upd b i c 8)) := by
  unfold vl; rw [form_upd hi h]
/-- How many of the first k bytes from 48 on fit at a place. -/
def mf (i : Nat) : Nat → Nat
  | 0 => 0
  | k + 1 => if fitB i (48 + (k : Int)) = true then mf i k + 1 else mf i k
theorem mf8' : mf 8 43 = 23 ∧ ∀ k : Fin 43, fitB 8 (48 + ((k.val : Nat) : Int)) = true → let_ ((mf 8 k.val : Nat) : Int) = 48 + ((k.val : Nat) : Int) := by decide +kernel
theorem mf7 (i : Nat) (hi : i < 8) : ∀ k, mf i k = min k 10
  | 0 => rfl
  | k + 1 => by
    unfold mf
    rw [mf7 i hi k]
    have hf : fitB i (48 + (k : Int)) = decide (k ≤ 9) := by
      unfold fitB digB
      rw [if_pos (by omega), decide_eq_decide]; omega
    rw [hf]
    by_cases h : k ≤ 9
    · simp [h]; omega
    · simp [h]; omega
theorem mf_at {i : Nat} (hi : i < 9) (k : Nat) (hk : k < 43) (h : fitB i (48 + (k : Int)) = true) : chn i (mf i k) = 48 + (k : Int) := by
  by_cases e : i < 8
  · unfold chn
    rw [if_pos e, mf7 i e]
    unfold fitB digB at h
    rw [if_pos (by omega)] at h
    have := of_decide_eq_true h
    omega
  · obtain rfl : i = 8 := by omega
    unfold chn
    rw [if_neg e]
    exact mf8'.2 ⟨k, hk⟩ h
theorem mf_end {i : Nat} (hi : i < 9) : mf i 43 = cnt i := by
  by_cases e : i < 8
  · rw [mf7 i e, cnt, if_pos e]; rfl
  · obtain rfl : i = 8 := by omega
    exact mf8'.1
/-- The search, without the text itself, finds what the choices give. -/
theorem wt_rp {b : Nat → Int} {i : Nat} (hi : i < 9) (hb : Bnd b) (h : Fit1 b i) : ∀ k, k ≤ 43 → (wt b i k).filter (fun x => decide (x ≠ S9 b)) = rp b i (mf i k)
  | 0, _ => rfl
  | k + 1, hk => by
    have ih := wt_rp hi hb h k (by omega)
    have hv := vl_upd (c := 48 + (k : Int)) hi h
    unfold mf
    cases hf : fitB i (48 + (k : Int))
    · rw [hf] at hv
      rw [wt_no (by rw [hv]; rfl), if_neg (by simp), ih]
    · have hc := mf_at hi k (by omega) hf
      rw [hf, Bool.true_and] at hv
      rw [if_pos rfl]
      have hne : (S9 (upd b i (48 + (k : Int))) ≠ S9 b) ↔ (48 + (k : Int) ≠ b i) := not_congr (S9_upd hb (by omega) hi)
      by_cases hl : ltr (upd b i (48 + (k : Int))) = upd b i (48 + (k : Int)) 8
      · rw [wt_yes (by rw [hv]; exact decide_eq_true hl), List.filter_append, ih]
        by_cases hx : 48 + (k : Int) = b i
        · have : okc b i (chn i (mf i k)) = false := by unfold okc; rw [hc]; simp [hx]
          rw [rp_no this]
          have h2 : decide (S9 (upd b i (48 + (k : Int))) ≠ S9 b) = false := decide_eq_false fun y => hne.1 y hx
          simp only [List.filter_cons, h2, List.filter_nil]
          simp
        · have : okc b i (chn i (mf i k)) = true := by unfold okc; rw [hc]; simp [hx, hl]
          rw [rp_yes this, hc]
          have h2 : decide (S9 (upd b i (48 + (k : Int))) ≠ S9 b) = true := decide_eq_true (hne.2 hx)
          simp only [List.filter_cons, h2, List.filter_nil]
          simp
      · rw [wt_no (by rw [hv]; exact decide_eq_false hl), ih]
        have : okc b i (chn i (mf i k)) = false := by unfold okc; rw [hc]; simp [hl]
        rw [rp_no this]
theorem wt_all {b : Nat → Int} {i : Nat} (hi : i < 9) (hb : Bnd b) (h : Fit1 b i) : (wt b i 43).filter (fun x => decide (x ≠ S9 b)) = rp b i (cnt i) := by
  rw [wt_rp hi hb h 43 (Nat.le_refl _), mf_end hi]
/-- Where the place itself does not fit, the text is not found. -/
theorem wt_unfit {b : Nat → Int} {i : Nat} (hi : i < 9) (hb : Bnd b) (h : Fit1 b i) (hn : fitB i (b i) = false) : ∀ k, k ≤ 43 → (wt b i k).filter (fun x => decide (x ≠ S9 b)) = wt b i k
  | 0, _ => rfl
  | k + 1, hk => by
    have ih := wt_unfit hi hb h hn k (by omega)
    have hv := vl_upd (c := 48 + (k : Int)) hi h
    unfold wt
    split
    · rename_i hx
      rw [List.filter_append, ih]
      have hne : S9 (upd b i (48 + (k : Int))) ≠ S9 b := fun e => by
        have := (S9_upd hb (by omega) hi).1 e
        rw [hv, this, hn] at hx
        cases hx
      simp [List.filter_cons, hne]
    · exact ih
theorem wt_fill {b : Nat → Int} {i : Nat} (hi : i < 9) (hb : Bnd b) (h : Fit1 b i) (hn : fitB i (b i) = false) : wt b i 43 = rp b i (cnt i) := by
  rw [← wt_all hi hb h, wt_unfit hi hb h hn 43 (Nat.le_refl _)]

/-- One digit replaced changes the sum. -/
theorem one_ne (b : Nat → Int) (i : Nat) (hi : i < 8) (v : Int) (hv : 48 ≤ v ∧ v ≤ 57) (h : Dig8 b) (hne : b i ≠ v) : lsum (upd b i v) % 23 ≠ lsum b % 23 := by
  rw [lsum_dig _ (upd_dig _ _ _ hv h), lsum_dig _ h]
  have h0 := h 0 (by omega); have h1 := h 1 (by omega); have h2 := h 2 (by omega); have h3 := h 3 (by omega)
  have h4 := h 4 (by omega); have h5 := h 5 (by omega); have h6 := h 6 (by omega); have h7 := h 7 (by omega)
  have ei : i = 0 ∨ i = 1 ∨ i = 2 ∨ i = 3 ∨ i = 4 ∨ i = 5 ∨ i = 6 ∨ i = 7 := by omega
  clear h
  rcases ei with h | h | h | h | h | h | h | h <;> subst h <;> simp [upd] at hne ⊢ <;> omega
theorem upd_upd (b : Nat → Int) (i : Nat) (c d : Int) : upd (upd b i c) i d = upd b i d := by
  funext j
  unfold upd
  split <;> rfl
theorem upd_self (b : Nat → Int) (i : Nat) : upd b i (b i) = b := by
  funext j
  unfold upd
  split
  · rename_i e; rw [e]
  · rfl
/-- A valid number with another byte at one place is not valid. -/
theorem vl_one {b : Nat → Int} {i : Nat} {c : Int} (hi : i < 9) (h : vl b = true) (hc : fitB i c = true) (hne : b i ≠ c) : ¬ ltr (upd b i c) = upd b i c 8 := by
  unfold vl at h
  rw [Bool.and_eq_true, decide_eq_true_eq] at h
  have hD := form_dig b h.1
  by_cases e : i < 8
  · rw [upd_other b c (by omega), ← h.2]
    unfold fitB digB at hc
    rw [if_pos (by omega)] at hc
    exact ltr_ne _ _ (one_ne b i e c (of_decide_eq_true hc) hD hne)
  · obtain rfl : i = 8 := by omega
    rw [upd_same, ltr_congr (upd b 8 c) b (fun j hj => upd_other b c (by omega)), h.2]
    exact hne
theorem chn_fit {i k : Nat} (hi : i < 9) (hk : k < cnt i) : fitB i (chn i k) = true := by
  unfold cnt at hk; unfold chn
  by_cases e : i < 8
  · rw [if_pos e] at hk ⊢
    unfold fitB digB
    rw [if_pos (by omega)]
    exact decide_eq_true (by omega)
  · rw [if_neg e] at hk ⊢
    unfold fitB
    rw [if_neg (by omega)]
    exact (letB_at _).2 ⟨k, hk, rfl⟩
theorem fit_chn {i : Nat} {c : Int} (hi : i < 9) (h : fitB i c = true) : ∃ k, k < cnt i ∧ chn i k = c := by
  unfold cnt chn
  unfold fitB at h
  by_cases e : i < 8
  · rw [if_pos (by omega)] at h
    have := of_decide_eq_true h
    rw [if_pos e]
    exact ⟨(c - 48).toNat, by omega, by rw [if_pos e]; omega⟩
  · rw [if_neg (by omega)] at h
    obtain ⟨k, hk, hc⟩ := (letB_at c).1 h
    rw [if_neg e]
    exact ⟨k, hk, by rw [if_neg e]; exact hc⟩
theorem chn_inj {i k m : Nat} (hk : k < cnt i) (hm : m < cnt i) (h : chn i k = chn i m) : k = m := by
  unfold cnt at hk hm; unfold chn at h
  by_cases e : i < 8
  · rw [if_pos e] at h hk hm; rw [if_pos e] at h; omega
  · rw [if_neg e] at h hk hm
    rw [if_neg e] at h
    have := let_inj (k : Int) (m : Int) (by omega) (by omega) h
    omega
/-- What the choices give. -/
theorem rp_mem {b : Nat → Int} {i : Nat} (x : ByteArray) : ∀ k, x ∈ rp b i k ↔ ∃ m, m < k ∧ okc b i (chn i m) = true ∧ x = S9 (upd b i (chn i m))
  | 0 => by simp [rp]
  | k + 1 => by
    have ih := rp_mem (b := b) (i := i) x k
    unfold rp
    split
    · rename_i h
      rw [List.mem_append, ih, List.mem_singleton]
      constructor
      · rintro (⟨m, h1, h2, h3⟩ | h3)
        · exact ⟨m, by omega, h2, h3⟩
        · exact ⟨k, by omega, h, h3⟩
      · rintro ⟨m, h1, h2, h3⟩
        by_cases e : m = k
        · subst e; exact .inr h3
        · exact .inl ⟨m, by omega, h2, h3⟩
    · rename_i h
      rw [ih]
      constructor
      · rintro ⟨m, h1, h2, h3⟩; exact ⟨m, by omega, h2, h3⟩
      · rintro ⟨m, h1, h2, h3⟩
        by_cases e : m = k
        · subst e; exact absurd h2 h
        · exact ⟨m, by omega, h2, h3⟩
/-- Of a valid number in which one place is replaced by a byte that does not fit, that place is filled by the number alone. -/
theorem rp_one {b : Nat → Int} {i : Nat} (hi : i < 9) (hb : Bnd b) (h : vl b = true) (c : Int) (hc : fitB i c = false) : ∀ k, k ≤ cnt i → rp (upd b i c) i k = if ∃ m, m < k ∧ chn i m = b i then [S9 b] else []
  | 0, _ => by simp [rp]
  | k + 1, hk => by
    have ih := rp_one hi hb h c hc k (by omega)
    have hfk := chn_fit hi (show k < cnt i by omega)
    unfold rp
    rw [upd_upd, ih]
    by_cases e : chn i k = b i
    · have hok : okc (upd b i c) i (chn i k) = true := by
        unfold okc
        rw [upd_upd, upd_same, e, upd_self]
        unfold vl at h
        rw [Bool.and_eq_true] at h
        rw [h.2, Bool.and_true]
        refine decide_eq_true fun x => ?_
        rw [← x, ← e, hfk] at hc
        cases hc
      have hn : ¬ ∃ m, m < k ∧ chn i m = b i := by
        rintro ⟨m, hm, hme⟩
        have := chn_inj (show m < cnt i by omega) (show k < cnt i by omega) (hme.trans e.symm)
        omega
      have hp : ∃ m, m < k + 1 ∧ chn i m = b i := ⟨k, by omega, e⟩
      rw [if_pos hok, e, upd_self, if_neg hn, if_pos hp]
      rfl
    · have hok : okc (upd b i c) i (chn i k) = false := by
        unfold okc
        rw [upd_upd]
        have := vl_one hi h hfk (fun x => e x.symm)
        rw [decide_eq_false this, Bool.and_false]
      rw [if_neg (by simp [hok])]
      have hiff : (∃ m, m < k ∧ chn i m = b i) ↔ ∃ m, m < k + 1 ∧ chn i m = b i := by
        constructor
        · rintro ⟨m, hm, x⟩; exact ⟨m, by omega, x⟩
        · rintro ⟨m, hm, x⟩
          by_cases e2 : m = k
          · subst e2; exact absurd x e
          · exact ⟨m, by omega, x⟩
      simp only [hiff]
theorem vl_fit {b : Nat → Int} (h : vl b = true) (i : Nat) (hi : i < 9) : fitB i (b i) = true := by
  unfold vl at h
  rw [Bool.and_eq_true] at h
  exact of_decide_eq_true h.1 i hi
theorem rp_fill {b : Nat → Int} {i : Nat} (hi : i < 9) (hb : Bnd b) (h : vl b = true) (c : Int) (hc : fitB i c = false) : rp (upd b i c) i (cnt i) = [S9 b] := by
  rw [rp_one hi hb h c hc _ (Nat.le_refl _)]
  obtain ⟨k, hk, e⟩ := fit_chn hi (vl_fit h i hi)
  rw [if_pos ⟨k, hk, e⟩]
end Go.Proofs.Ytpdekglmmgecmaa.Id
