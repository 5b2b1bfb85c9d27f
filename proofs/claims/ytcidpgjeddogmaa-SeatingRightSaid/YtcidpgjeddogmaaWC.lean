/- Plain laws of seating: assigned places are right; the example of the chapter. No program in sight. -/
import Derived.Test.YtcidpgjeddogmaaVR
import Derived.Test.YtcidpgjeddogmaaVC
namespace Go.Proofs.Ytcidpgjeddogmaa.Pl
open Go.Proofs.Ytcidpgjeddogmaa.Mw (ge gi ge_lt gi_lt)
open Go.Proofs.Ytcidpgjeddogmaa.St
set_option linter.unusedVariables false
set_option linter.unusedSimpArgs false

section
variable {rs : List Rm} {ns : List Nd} {v : Int} {q : List Int}
theorem asg_inv {l : List Pc} (h : asg rs ns v q = (l, 0)) : chk rs ns v = 0 ∧ q.length = ns.length ∧ (∀ i, i < q.length → inB rs.length q i = true) ∧ (∀ i, i < q.length → stB rs ns q i = true) ∧ (∀ i, i < q.length → fuB rs q i = true) ∧ l = asl rs ns v q ns.length := by
  by_cases h0 : chk rs ns v = 0
  · by_cases h1 : q.length = ns.length
    · cases h2 : alln q.length (inB rs.length q)
      · unfold asg at h
        rw [if_neg (by simp [h0]), if_neg (by simp [h1]), if_pos h2] at h
        cases h
      · cases h3 : alln q.length (stB rs ns q)
        · unfold asg at h
          rw [if_neg (by simp [h0]), if_neg (by simp [h1]), if_neg (by rw [h2]; simp), if_pos h3] at h
          cases h
        · cases h4 : alln q.length (fuB rs q)
          · unfold asg at h
            rw [if_neg (by simp [h0]), if_neg (by simp [h1]), if_neg (by rw [h2]; simp), if_neg (by rw [h3]; simp), if_pos h4] at h
            cases h
          · rw [asg_0 h0 h1 (alln_at h2) (alln_at h3) (alln_at h4)] at h
            exact ⟨h0, h1, alln_at h2, alln_at h3, alln_at h4, (congrArg Prod.fst h).symm⟩
    · rw [asg_1 h0 h1] at h; cases h
  · rw [asg_c h0] at h
    exact absurd (congrArg Prod.snd h) h0
/-- Places that Assign gives are right. -/
theorem asg_right {l : List Pc} (h : asg rs ns v q = (l, 0)) : rgt rs ns v l = true := by
  obtain ⟨h0, h1, h2, h3, h4, rfl⟩ := asg_inv h
  have hcl := chk_0_inv h0
  have hrm : ∀ i, i < ns.length → 1 ≤ (rmI rs (gi q i)).r ∧ 1 ≤ (rmI rs (gi q i)).c := fun i hi => by
    have hb := (ins_iff _ _ _).1 (h2 i (by omega))
    have hr := hcl.2.2.2.1 (gi q i).toNat (by omega)
    have := (rmB_iff _).1 hr
    exact ⟨this.1.1, this.2.1.1⟩
  refine rgt_y h0 (asl_len _) fun i hi => ?_
  rw [asl_len] at hi
  obtain ⟨hr1, hc1⟩ := hrm i hi
  have hf := h4 i (by omega)
  unfold fuB at hf
  rw [decide_eq_true_eq] at hf
  have hb := h2 i (by omega)
  unfold inB at hb
  have hs := h3 i (by omega)
  unfold stB at hs
  constructor
  · unfold riB
    rw [asl_at hi]
    show ((ge ns i).c == (ge ns i).c && (ins (gi q i) 0 ((rs.length : Int) - 1) && (sut (rmI rs (gi q i)) (ge ns i) && (ins ((cnt q (gi q i) i : Int) / (rmI rs (gi q i)).c) 0 ((rmI rs (gi q i)).r - 1) && (ins ((cnt q (gi q i) i : Int) % (rmI rs (gi q i)).c) 0 ((rmI rs (gi q i)).c - 1) && var ((cnt q (gi q i) i : Int) / (rmI rs (gi q i)).c) ((cnt q (gi q i) i : Int) % (rmI rs (gi q i)).c) v == var ((cnt q (gi q i) i : Int) / (rmI rs (gi q i)).c) ((cnt q (gi q i) i : Int) % (rmI rs (gi q i)).c) v))))) = true
    have e1 : ins ((cnt q (gi q i) i : Int) / (rmI rs (gi q i)).c) 0 ((rmI rs (gi q i)).r - 1) = true := by
      rw [ins_iff]
      have a := Int.ediv_nonneg (show 0 ≤ (cnt q (gi q i) i : Int) by omega) (show 0 ≤ (rmI rs (gi q i)).c by omega)
      have b := Int.ediv_lt_of_lt_mul (show 0 < (rmI rs (gi q i)).c by omega) hf
      omega
    have e2 : ins ((cnt q (gi q i) i : Int) % (rmI rs (gi q i)).c) 0 ((rmI rs (gi q i)).c - 1) = true := by
      rw [ins_iff]
      have a := Int.emod_nonneg (cnt q (gi q i) i : Int) (show (rmI rs (gi q i)).c ≠ 0 by omega)
      have b := Int.emod_lt_of_pos (cnt q (gi q i) i : Int) (show 0 < (rmI rs (gi q i)).c by omega)
      omega
    rw [hb, hs, e1, e2]
    simp
  · unfold neB
    refine alln_true fun k hk => ?_
    rw [asl_at (show k < ns.length by omega), asl_at hi]
    cases e : seq (asp rs ns v q k) (asp rs ns v q i)
    · rfl
    · exfalso
      unfold seq at e
      rw [Bool.and_eq_true, Bool.and_eq_true, beq_iff_eq, beq_iff_eq, beq_iff_eq] at e
      obtain ⟨e1, e2, e3⟩ := e
      have e1 : gi q k = gi q i := e1
      have e2 : (cnt q (gi q k) k : Int) / (rmI rs (gi q k)).c = (cnt q (gi q i) i : Int) / (rmI rs (gi q i)).c := e2
      have e3 : (cnt q (gi q k) k : Int) % (rmI rs (gi q k)).c = (cnt q (gi q i) i : Int) % (rmI rs (gi q i)).c := e3
      have hlt := cnt_lt q hk
      rw [e1] at e2 e3 hlt
      have a := Int.mul_ediv_add_emod (cnt q (gi q i) k : Int) (rmI rs (gi q i)).c
      have b := Int.mul_ediv_add_emod (cnt q (gi q i) i : Int) (rmI rs (gi q i)).c
      rw [e2, e3] at a
      omega
end
/-- The rooms and candidates of the example. -/
def rs0 : List Rm := [⟨1, 2, 0⟩, ⟨1, 1, 2⟩]
def ns0 : List Nd := [⟨1, 2⟩, ⟨2, 0⟩, ⟨3, 2⟩]
def ns1 : List Nd := [⟨1, 2⟩, ⟨2, 0⟩]
theorem chk_ex0 : chk rs0 ns0 2 = 0 := by decide
theorem chk_ex1 : chk rs0 ns1 2 = 0 := by decide
theorem no_ex0 {q : List Int} {l : List Pc} : ¬ asg rs0 ns0 2 q = (l, 0) := by
  intro h
  obtain ⟨-, h1, h2, h3, h4, -⟩ := asg_inv h
  have h1 : q.length = 3 := h1
  have hr : ∀ i, i < 3 → gi q i = 0 ∨ gi q i = 1 := fun i hi => by
    have := (ins_iff _ _ _).1 (h2 i (by omega))
    have e : rs0.length = 2 := rfl
    rw [e] at this
    omega
  have h30 := h3 0 (by omega)
  have h32 := h3 2 (by omega)
  have h42 := h4 2 (by omega)
  have q0 : gi q 0 = 1 := by
    rcases hr 0 (by omega) with e | e
    · unfold stB at h30
      rw [e] at h30
      exact absurd h30 (by decide)
    · exact e
  have q2 : gi q 2 = 1 := by
    rcases hr 2 (by omega) with e | e
    · unfold stB at h32
      rw [e] at h32
      exact absurd h32 (by decide)
    · exact e
  unfold fuB at h42
  rw [q2, decide_eq_true_eq] at h42
  have c : cnt q 1 2 = (0 + 1) + if gi q 1 = 1 then 1 else 0 := by
    show (0 + if gi q 0 = 1 then 1 else 0) + (if gi q 1 = 1 then 1 else 0) = _
    rw [q0, if_pos rfl]
  have hp : (rmI rs0 1).r * (rmI rs0 1).c = 1 := by decide
  rw [hp, c] at h42
  omega
theorem no_ex1 {l : List Int} : ¬ shr rs0 ns1 l = true := by
  intro h
  unfold shr at h
  rw [Bool.and_eq_true, Bool.and_eq_true, decide_eq_true_eq] at h
  obtain ⟨-, h1, h2⟩ := h
  have hb : ∀ i, i < l.length → (gi l i = 0 ∨ gi l i = 1) ∧ (i = 0 ∨ gi l (i - 1) < gi l i) := fun i hi => by
    have := alln_at h1 i hi
    unfold isB at this
    rw [Bool.and_eq_true, ins_iff, Bool.or_eq_true, beq_iff_eq, decide_eq_true_eq] at this
    have e : ns1.length = 2 := rfl
    rw [e] at this
    omega
  match l, hb, h2 with
  | [], _, h2 => exact absurd h2 (by decide)
  | [a], hb, h2 =>
    have := (hb 0 (by simp)).1
    rcases this with e | e
    · have e : a = 0 := e
      subst e
      exact absurd h2 (by decide)
    · have e : a = 1 := e
      subst e
      exact absurd h2 (by decide)
  | [a, b], hb, h2 =>
    have e0 := (hb 0 (by simp)).1
    have e1 := hb 1 (by simp)
    have e0 : a = 0 ∨ a = 1 := e0
    have e1 : (b = 0 ∨ b = 1) ∧ (1 = 0 ∨ a < b) := e1
    have ea : a = 0 := by omega
    have eb : b = 1 := by omega
    subst ea eb
    exact absurd h2 (by decide)
  | a :: b :: c :: r, hb, _ =>
    have e0 := (hb 0 (by simp)).1
    have e1 := hb 1 (by simp)
    have e2 := hb 2 (by simp)
    have e0 : a = 0 ∨ a = 1 := e0
    have e1 : (b = 0 ∨ b = 1) ∧ (1 = 0 ∨ a < b) := e1
    have e2 : (c = 0 ∨ c = 1) ∧ (2 = 0 ∨ b < c) := e2
    omega
end Go.Proofs.Ytcidpgjeddogmaa.Pl
