/- Plain laws of seating: what the paths mean for places and for sets with too few seats. No program in sight. -/
import Derived.Test.YtcidpgjeddogmaaVP
namespace Go.Proofs.Ytcidpgjeddogmaa.Pl
open Go.Proofs.Ytcidpgjeddogmaa.Mw (ge gi)
open Go.Proofs.Ytcidpgjeddogmaa.St
set_option linter.unusedVariables false
set_option linter.unusedSimpArgs false

/-- Seats of room number r. -/
def capR (rs : List Rm) (r : Nat) : Nat := ((ge rs r).r * (ge rs r).c).toNat
def suR (rs : List Rm) (ns : List Nd) (r i : Nat) : Bool := sut (ge rs r) (ge ns i)
/-- Index number i of a list. -/
def gx (l : List Int) (i : Nat) : Nat := (gi l i).toNat
/-- Some candidate of the set is suited by a room. -/
def anyB (rs : List Rm) (ns : List Nd) (l : List Int) (r : Nat) : Bool := l.any fun x => sut (ge rs r) (ge ns x.toNat)
/-- The seats of the first k rooms that suit somebody of the set. -/
def ssm (rs : List Rm) (ns : List Nd) (l : List Int) : Nat → Int
  | 0 => 0
  | k + 1 => ssm rs ns l k + if anyB rs ns l k = true then (ge rs k).r * (ge rs k).c else 0
def isB (n : Nat) (l : List Int) (i : Nat) : Bool := ins (gi l i) 0 ((n : Int) - 1) && (i == 0 || decide (gi l (i - 1) < gi l i))
/-- Whether a set has too few seats. -/
def shr (rs : List Rm) (ns : List Nd) (l : List Int) : Bool :=
  chk rs ns 2 == 0 && (alln l.length (isB ns.length l) && decide (ssm rs ns l rs.length < l.length))
/-- The seats of the rooms that are visited. -/
def vsm (V : Nat → Bool) (cap : Nat → Nat) : Nat → Nat
  | 0 => 0
  | k + 1 => vsm V cap k + if V k = true then cap k else 0
/-- The members of the rooms that are visited. -/
def vme (V : Nat → Bool) (m : Nat → List Nat) : Nat → List Nat
  | 0 => []
  | k + 1 => vme V m k ++ if V k = true then m k else []
theorem vme_mem {V : Nat → Bool} {m : Nat → List Nat} {x : Nat} : ∀ {k : Nat}, x ∈ vme V m k ↔ ∃ r, r < k ∧ V r = true ∧ x ∈ m r
  | 0 => by simp [vme]
  | k + 1 => by
    unfold vme
    rw [List.mem_append, vme_mem]
    constructor
    · rintro (⟨r, h1, h2, h3⟩ | h)
      · exact ⟨r, by omega, h2, h3⟩
      · by_cases e : V k = true
        · rw [if_pos e] at h; exact ⟨k, by omega, e, h⟩
        · rw [if_neg e] at h; cases h
    · rintro ⟨r, h1, h2, h3⟩
      by_cases e : r = k
      · subst e; rw [if_pos h2]; exact .inr h3
      · exact .inl ⟨r, by omega, h2, h3⟩
theorem vme_len {V : Nat → Bool} {m : Nat → List Nat} {cap : Nat → Nat} : ∀ {k : Nat}, (∀ r, r < k → V r = true → (m r).length = cap r) → (vme V m k).length = vsm V cap k
  | 0, _ => rfl
  | k + 1, h => by
    unfold vme vsm
    rw [List.length_append, vme_len fun r hr => h r (by omega)]
    by_cases e : V k = true
    · rw [if_pos e, if_pos e, h k (by omega) e]
    · rw [if_neg e, if_neg e]; rfl
theorem vme_nodup {V : Nat → Bool} {m : Nat → List Nat} {q : Nat → Int} : ∀ {k : Nat}, (∀ r, r < k → V r = true → (m r).Nodup ∧ ∀ x, x ∈ m r → q x = (r : Int)) → (vme V m k).Nodup
  | 0, _ => by simp [vme]
  | k + 1, h => by
    unfold vme
    rw [List.nodup_append]
    refine ⟨vme_nodup fun r hr => h r (by omega), ?_, fun a ha b hb => ?_⟩
    · by_cases e : V k = true
      · rw [if_pos e]; exact (h k (by omega) e).1
      · rw [if_neg e]; simp
    · rintro rfl
      obtain ⟨r, h1, h2, h3⟩ := vme_mem.1 ha
      by_cases e : V k = true
      · rw [if_pos e] at hb
        have h4 := (h r (by omega) h2).2 a h3
        rw [(h k (by omega) e).2 a hb] at h4
        omega
      · rw [if_neg e] at hb; cases hb
/-- A nodup list within another one is not longer. -/
theorem nodup_len {α : Type} [DecidableEq α] : ∀ {l m : List α}, l.Nodup → (∀ x, x ∈ l → x ∈ m) → l.length ≤ m.length
  | [], _, _, _ => by simp
  | a :: l, m, h, hm => by
    rw [List.nodup_cons] at h
    have h1 : l.length ≤ (m.erase a).length := nodup_len h.2 fun x hx => by
      have hne : x ≠ a := fun e => h.1 (e ▸ hx)
      exact (List.mem_erase_of_ne hne).2 (hm x (List.mem_cons_of_mem _ hx))
    have h2 := List.length_erase_of_mem (hm a List.mem_cons_self)
    have h3 : 0 < m.length := List.length_pos_of_mem (hm a List.mem_cons_self)
    simp only [List.length_cons]; omega
/-- After i candidates have found places. -/
structure Out (rs : List Rm) (ns : List Nd) (i : Nat) (m : Nat → List Nat) (q : Nat → Int) : Prop where
  ok : Okv rs.length ns.length (suR rs ns) (capR rs) (fun _ => false) m q
  is : ∀ x, Is rs.length (fun _ => false) m x ↔ x < i
section
variable {rs : List Rm} {ns : List Nd} {i : Nat} {m : Nat → List Nat} {q : Nat → Int} {T : Sx}
theorem Out.zero (q : Nat → Int) : Out rs ns 0 (fun _ => []) q :=
  ⟨fun r _ _ => ⟨fun x hx => (by cases hx), by simp, Nat.zero_le _⟩, fun x => ⟨fun ⟨r, _, _, h⟩ => (by cases h), fun h => absurd h (by omega)⟩⟩
theorem Out.suc (h : Out rs ns i m q) (hS : Suc rs.length ns.length (suR rs ns) (capR rs) ⟨fun _ => false, m, q⟩ i T) : Out rs ns (i + 1) T.mem T.rm :=
  ⟨hS.c, fun x => by rw [hS.d x, h.is x]; omega⟩
/-- A failure means a set with too few seats. -/
theorem Out.fai (h : Out rs ns i m q) (hi : i < ns.length) (hF : Fai rs.length (suR rs ns) (capR rs) ⟨fun _ => false, m, q⟩ i T) (hc : chk rs ns 2 = 0) (hsq : ∀ r, r < rs.length → 0 ≤ (ge rs r).r * (ge rs r).c)
    (l : List Int) (hp : l.Perm ((i :: vme T.vis m rs.length).map fun x : Nat => (x : Int))) (hs : ∀ j, j + 1 < l.length → gi l j ≤ gi l (j + 1)) : shr rs ns l = true := by
  have hmem : ∀ x : Int, x ∈ l ↔ ∃ y : Nat, (y = i ∨ ∃ r, r < rs.length ∧ T.vis r = true ∧ y ∈ m r) ∧ x = (y : Int) := fun x => by
    rw [hp.mem_iff, List.mem_map]
    constructor
    · rintro ⟨y, hy, e⟩
      refine ⟨y, ?_, e.symm⟩
      rcases List.mem_cons.1 hy with hy | hy
      · exact .inl hy
      · exact .inr (vme_mem.1 hy)
    · rintro ⟨y, hy, e⟩
      refine ⟨y, ?_, e.symm⟩
      rcases hy with hy | hy
      · exact List.mem_cons.2 (.inl hy)
      · exact List.mem_cons.2 (.inr (vme_mem.2 hy))
  have hnd : l.Nodup := by
    rw [hp.nodup_iff]
    have h1 : (i :: vme T.vis m rs.length).Nodup := by
      rw [List.nodup_cons]
      refine ⟨fun hx => ?_, vme_nodup (q := q) fun r hr _ => ⟨(h.ok r hr rfl).2.1, fun x hx => ((h.ok r hr rfl).1 x hx).2.2⟩⟩
      obtain ⟨r, hr, _, hx⟩ := vme_mem.1 hx
      have := (h.is i).1 ⟨r, hr, rfl, hx⟩
      omega
    have h2 : List.Pairwise (fun a b : Nat => (a : Int) ≠ (b : Int)) (i :: vme T.vis m rs.length) := (List.nodup_iff_pairwise_ne.1 h1).imp (fun {a b} hne e => hne (by omega))
    exact List.pairwise_map.2 h2
  have hlen : l.length = 1 + vsm T.vis (capR rs) rs.length := by
    rw [hp.length_eq, List.length_map, List.length_cons, vme_len (cap := capR rs) fun r hr hv => (hF.f r hr rfl hv).1]; omega
  have hsum : ∀ k, k ≤ rs.length → ssm rs ns l k ≤ (vsm T.vis (capR rs) k : Nat) := by
    intro k
    induction k with
    | zero => intro _; simp [ssm, vsm]
    | succ k ih =>
      intro hk
      have ih := ih (by omega)
      have hq := hsq k (by omega)
      unfold ssm vsm
      by_cases ha : anyB rs ns l k = true
      · rw [if_pos ha]
        have hv : T.vis k = true := by
          unfold anyB at ha
          rw [List.any_eq_true] at ha
          obtain ⟨x, hx, hsx⟩ := ha
          obtain ⟨y, hy, rfl⟩ := (hmem x).1 hx
          rw [Int.toNat_natCast] at hsx
          rcases hy with rfl | ⟨r, hr, hvr, hy⟩
          · exact hF.s k (by omega) hsx
          · exact (hF.f r hr rfl hvr).2 y hy k (by omega) hsx
        rw [if_pos hv]
        have : ((capR rs k : Nat) : Int) = (ge rs k).r * (ge rs k).c := by unfold capR; omega
        omega
      · rw [if_neg ha]
        by_cases hv : T.vis k = true
        · rw [if_pos hv]; omega
        · rw [if_neg hv]; omega
  unfold shr
  rw [Bool.and_eq_true, Bool.and_eq_true]
  refine ⟨by rw [hc]; rfl, alln_true fun j hj => ?_, ?_⟩
  · unfold isB
    rw [Bool.and_eq_true]
    refine ⟨?_, ?_⟩
    · obtain ⟨y, hy, e⟩ := (hmem _).1 (Mw.gi_mem l j hj)
      have hy2 : y < ns.length := by
        rcases hy with rfl | ⟨r, hr, _, hy⟩
        · exact hi
        · exact ((h.ok r hr rfl).1 y hy).1
      unfold ins
      rw [decide_eq_true_eq, e]; omega
    · cases j with
      | zero => rfl
      | succ j =>
        rw [Nat.add_sub_cancel, Bool.or_eq_true, decide_eq_true_eq]
        right
        have h1 := hs j hj
        have h2 : gi l j ≠ gi l (j + 1) := fun e => by
          have e1 := Mw.gi_lt l j (by omega)
          have e2 := Mw.gi_lt l (j + 1) hj
          rw [List.getElem?_eq_getElem (by omega)] at e1 e2
          have e3 : l[j] = l[j + 1] := by
            have := Option.some.inj e1
            have := Option.some.inj e2
            rw [‹l[j] = _›, ‹l[j + 1] = _›, e]
          have := (List.getElem_inj hnd).1 e3
          omega
        omega
  · have := hsum rs.length (Nat.le_refl _)
    rw [decide_eq_true_eq, hlen]
    omega
end
end Go.Proofs.Ytcidpgjeddogmaa.Pl
