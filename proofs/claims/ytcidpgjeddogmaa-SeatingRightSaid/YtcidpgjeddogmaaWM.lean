/- Plain laws of seating: right places and a set with too few seats exclude each other; sets as numbers. No program in sight. -/
import Derived.Test.YtcidpgjeddogmaaVV
import Derived.Test.YtcidpgjeddogmaaVY
import Derived.Test.YtcidpgjeddogmaaWC
import Derived.Test.YtcidpgjeddogmaaVW
namespace Go.Proofs.Ytcidpgjeddogmaa.Pl
open Go.Proofs.Ytcidpgjeddogmaa.Mw (ge gi ge_lt gi_lt gi_mem)
open Go.Proofs.Ytcidpgjeddogmaa.St
set_option linter.unusedVariables false
set_option linter.unusedSimpArgs false

theorem filter_split (l : List Int) (f : Int → Int) (k : Int) : (l.filter fun x => decide (f x < k + 1)).length ≤ (l.filter fun x => decide (f x < k)).length + (l.filter fun x => decide (f x = k)).length := by
  induction l with
  | nil => simp
  | cons a l ih =>
    rw [List.filter_cons, List.filter_cons, List.filter_cons]
    by_cases h1 : f a < k
    · rw [if_pos (decide_eq_true (by omega)), if_pos (decide_eq_true h1), if_neg (by simp; omega)]
      simp only [List.length_cons]; omega
    · by_cases h2 : f a = k
      · rw [if_pos (decide_eq_true (by omega)), if_neg (by simp; omega), if_pos (decide_eq_true h2)]
        simp only [List.length_cons]; omega
      · rw [if_neg (by simp; omega), if_neg (by simp; omega), if_neg (by simp [h2])]
        exact ih
theorem asc_pair {n : Nat} {l : List Int} (h : ∀ i, i < l.length → isB n l i = true) : l.Pairwise (fun a b => a < b) := by
  have hs : ∀ i, i + 1 < l.length → gi l i < gi l (i + 1) := fun i hi => by
    have := h (i + 1) hi
    unfold isB at this
    rw [Bool.and_eq_true, Bool.or_eq_true, decide_eq_true_eq, Nat.add_sub_cancel] at this
    rcases this.2 with h1 | h1
    · simp at h1
    · exact h1
  have hlt : ∀ d i, i + d + 1 < l.length → gi l i < gi l (i + d + 1) := by
    intro d
    induction d with
    | zero => exact fun i hi => hs i hi
    | succ d ih => exact fun i hi => Int.lt_trans (ih i (by omega)) (hs (i + d + 1) (by omega))
  rw [List.pairwise_iff_getElem]
  intro i j hi hj hij
  have e1 := gi_lt l i hi
  have e2 := gi_lt l j hj
  rw [List.getElem?_eq_getElem hi] at e1
  rw [List.getElem?_eq_getElem hj] at e2
  rw [Option.some.inj e1, Option.some.inj e2]
  have := hlt (j - i - 1) i (by omega)
  rwa [show i + (j - i - 1) + 1 = j by omega] at this
/-- Right places and a set with too few seats exclude each other. -/
theorem hall {rs : List Rm} {ns : List Nd} {v : Int} {q : List Int} {p : List Pc} (h : asg rs ns v q = (p, 0)) {l : List Int} (hs : shr rs ns l = true) : False := by
  obtain ⟨h0, h1, h2, h3, h4, -⟩ := asg_inv h
  have hcl := chk_0_inv h0
  unfold shr at hs
  rw [Bool.and_eq_true, Bool.and_eq_true, decide_eq_true_eq] at hs
  obtain ⟨-, hb, hlt⟩ := hs
  have hb := alln_at hb
  have hin : ∀ x, x ∈ l → 0 ≤ x ∧ x < ns.length := fun x hx => by
    obtain ⟨i, hi, rfl⟩ := List.mem_iff_getElem.1 hx
    have e := gi_lt l i hi
    rw [List.getElem?_eq_getElem hi] at e
    rw [Option.some.inj e]
    exact isB_in (hb i hi)
  have hpw := asc_pair hb
  have hq : ∀ x, x ∈ l → 0 ≤ gi q x.toNat ∧ gi q x.toNat < rs.length := fun x hx => by
    have := hin x hx
    exact inB_iff.1 (h2 x.toNat (by omega))
  have hsum : ∀ k : Nat, k ≤ rs.length → ((l.filter fun x => decide (gi q x.toNat < (k : Int))).length : Int) ≤ ssm rs ns l k := by
    intro k
    induction k with
    | zero =>
      intro _
      have : (l.filter fun x => decide (gi q x.toNat < ((0 : Nat) : Int))) = [] := by
        rw [List.filter_eq_nil_iff]
        intro x hx
        have := (hq x hx).1
        simp; omega
      rw [this]; simp [ssm]
    | succ k ih =>
      intro hk
      have ih := ih (by omega)
      have hsp := filter_split l (fun x => gi q x.toNat) (k : Int)
      have hrm := hcl.2.2.2.1 k (by omega)
      have hr := (rmB_iff _).1 hrm
      have hpos : 0 ≤ (ge rs k).r * (ge rs k).c := Int.mul_nonneg (by omega) (by omega)
      have hone : ((l.filter fun x => decide (gi q x.toNat = (k : Int))).length : Int) ≤ if anyB rs ns l k = true then (ge rs k).r * (ge rs k).c else 0 := by
        by_cases ha : anyB rs ns l k = true
        · rw [if_pos ha]
          have hnd : (((l.filter fun x => decide (gi q x.toNat = (k : Int))).map Int.toNat)).Nodup := by
            rw [List.nodup_iff_pairwise_ne, List.pairwise_map]
            refine (List.Pairwise.filter _ (hpw.imp_of_mem (S := fun a b => a.toNat ≠ b.toNat) fun {a b} ha' hb' hab => ?_))
            have := hin a ha'
            have := hin b hb'
            omega
          have hle := nodup_len (m := (List.range ns.length).filter fun j => decide (gi q j = (k : Int))) hnd fun y hy => by
            obtain ⟨x, hx, rfl⟩ := List.mem_map.1 hy
            obtain ⟨hx1, hx2⟩ := List.mem_filter.1 hx
            have := hin x hx1
            exact List.mem_filter.2 ⟨List.mem_range.2 (by omega), hx2⟩
          rw [List.length_map, ← cnt_filter] at hle
          have hcp := cnt_cap (rs := rs) (q := q) (x := (k : Int)) (k := ns.length) (fun j hj => h4 j (by omega)) (by unfold rmI; rw [Int.toNat_natCast]; exact hpos)
          unfold rmI at hcp
          rw [Int.toNat_natCast] at hcp
          omega
        · rw [if_neg ha]
          have : (l.filter fun x => decide (gi q x.toNat = (k : Int))) = [] := by
            rw [List.filter_eq_nil_iff]
            intro x hx hx2
            rw [decide_eq_true_eq] at hx2
            apply ha
            have hi := hin x hx
            have hst := h3 x.toNat (by omega)
            unfold stB rmI at hst
            rw [hx2, Int.toNat_natCast] at hst
            unfold anyB
            rw [List.any_eq_true]
            exact ⟨x, hx, hst⟩
          rw [this]; simp
      have e : (((k + 1 : Nat) : Int)) = (k : Int) + 1 := by omega
      rw [e]
      show _ ≤ ssm rs ns l k + if anyB rs ns l k = true then (ge rs k).r * (ge rs k).c else 0
      omega
  have hall := hsum rs.length (Nat.le_refl _)
  have : (l.filter fun x => decide (gi q x.toNat < (rs.length : Int))) = l := by
    rw [List.filter_eq_self]
    intro x hx
    exact decide_eq_true (hq x hx).2
  rw [this] at hall
  omega
/-- The set of the numbers whose bit is one. -/
def sbs (n b : Nat) : List Nat := (List.range n).filter fun i => b.testBit i
theorem bits_of (p : Nat → Bool) : ∀ n, ∃ b, b < 2 ^ n ∧ ∀ i, i < n → b.testBit i = p i
  | 0 => ⟨0, by simp, fun i hi => absurd hi (by omega)⟩
  | n + 1 => by
    obtain ⟨b, hb, hp⟩ := bits_of p n
    by_cases e : p n = true
    · refine ⟨2 ^ n + b, by rw [Nat.pow_succ]; omega, fun i hi => ?_⟩
      by_cases hin : i = n
      · subst hin; rw [Nat.testBit_two_pow_add_eq, Nat.testBit_lt_two_pow hb, e]; rfl
      · rw [Nat.testBit_two_pow_add_gt (by omega)]; exact hp i (by omega)
    · refine ⟨b, by rw [Nat.pow_succ]; omega, fun i hi => ?_⟩
      by_cases hin : i = n
      · subst hin; rw [Nat.testBit_lt_two_pow hb]; cases h : p i
        · rfl
        · exact absurd h e
      · exact hp i (by omega)
/-- Each ascending set is one of those. -/
theorem sbs_all {n : Nat} {l : List Int} (h : ∀ i, i < l.length → isB n l i = true) : ∃ b, b < 2 ^ n ∧ l = (sbs n b).map fun x : Nat => (x : Int) := by
  have hin : ∀ x, x ∈ l → 0 ≤ x ∧ x < n := fun x hx => by
    obtain ⟨i, hi, rfl⟩ := List.mem_iff_getElem.1 hx
    have e := gi_lt l i hi
    rw [List.getElem?_eq_getElem hi] at e
    rw [Option.some.inj e]
    exact isB_in (h i hi)
  have hpw := asc_pair h
  obtain ⟨b, hb, hp⟩ := bits_of (fun i => decide ((i : Int) ∈ l)) n
  refine ⟨b, hb, ?_⟩
  have hpw2 : ((sbs n b).map fun x : Nat => (x : Int)).Pairwise (fun a b => a < b) := by
    rw [List.pairwise_map]
    exact List.Pairwise.filter _ (List.pairwise_lt_range.imp fun {a b} (hab : a < b) => by omega)
  have nd : ∀ {m : List Int}, m.Pairwise (fun a b => a < b) → m.Nodup := fun {m} hm => List.nodup_iff_pairwise_ne.2 (hm.imp fun {a b} hab => by omega)
  refine List.Perm.eq_of_pairwise (le := fun a b => a < b) (fun a b _ _ h1 h2 => by omega) hpw hpw2 ((List.perm_ext_iff_of_nodup (nd hpw) (nd hpw2)).2 fun x => ?_)
  rw [List.mem_map]
  constructor
  · intro hx
    have := hin x hx
    refine ⟨x.toNat, ?_, by omega⟩
    unfold sbs
    rw [List.mem_filter, List.mem_range]
    refine ⟨by omega, ?_⟩
    rw [hp _ (by omega), decide_eq_true_eq, show ((x.toNat : Nat) : Int) = x by omega]; exact hx
  · rintro ⟨y, hy, rfl⟩
    unfold sbs at hy
    rw [List.mem_filter, List.mem_range] at hy
    rw [hp _ hy.1, decide_eq_true_eq] at hy
    exact hy.2
end Go.Proofs.Ytcidpgjeddogmaa.Pl
