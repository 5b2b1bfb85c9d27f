/- Plain mathematics of the seating layer: rooms, needs, and the first error. No program in sight. -/
import Derived.Test.YtcidpgjeddogmaaTU
import Derived.Test.YtcidpgjeddogmaaUR
namespace Go.Proofs.Ytcidpgjeddogmaa.St
open Go.RowKit
open Go.Proofs.Ytcidpgjeddogmaa.Mw (I64 RdR ge)
set_option linter.unusedVariables false
set_option linter.unusedSimpArgs false

/-- A room: rows, columns, what it offers. -/
structure Rm where
  r : Int
  c : Int
  o : Int
instance : Inhabited Rm := ⟨⟨0, 0, 0⟩⟩
/-- A candidate and what is needed. -/
structure Nd where
  c : Int
  n : Int
instance : Inhabited Nd := ⟨⟨0, 0⟩⟩
abbrev rmv (r : Rm) : Value := .agg #[.int .i64 r.r, .int .i64 r.c, .int .i64 r.o]
abbrev ndv (n : Nd) : Value := .agg #[.int .i64 n.c, .int .i64 n.n]
abbrev rml (r : Rm) : List Value := [.int .i64 r.r, .int .i64 r.c, .int .i64 r.o]
abbrev ndl (n : Nd) : List Value := [.int .i64 n.c, .int .i64 n.n]
theorem rml_len (r : Rm) : (rml r).length = 3 := rfl
theorem ndl_len (n : Nd) : (ndl n).length = 2 := rfl
abbrev RdRm (w : World) (A : Option Addr) (l : List Rm) : Prop := RdR 3 rml w A l
abbrev RdNd (w : World) (A : Option Addr) (l : List Nd) : Prop := RdR 2 ndl w A l
theorem rm_at {w : World} {A : Option Addr} {l : List Rm} (h : RdRm w A l) (i : Nat) (hi : i < l.length) : ∃ b off, A = some ⟨b, off, none⟩ ∧ b < w.heap.size ∧ w.cell? ⟨b, off + i * 3, none⟩ = some (.int .i64 (ge l i).r) ∧ w.cell? ⟨b, off + i * 3 + 1, none⟩ = some (.int .i64 (ge l i).c) ∧ w.cell? ⟨b, off + i * 3 + 2, none⟩ = some (.int .i64 (ge l i).o) := by
  obtain ⟨b, off, e, hlt, hc⟩ := h i hi
  exact ⟨b, off, e, hlt, hc 0 (by omega), hc 1 (by omega), hc 2 (by omega)⟩
theorem nd_at {w : World} {A : Option Addr} {l : List Nd} (h : RdNd w A l) (i : Nat) (hi : i < l.length) : ∃ b off, A = some ⟨b, off, none⟩ ∧ b < w.heap.size ∧ w.cell? ⟨b, off + i * 2, none⟩ = some (.int .i64 (ge l i).c) ∧ w.cell? ⟨b, off + i * 2 + 1, none⟩ = some (.int .i64 (ge l i).n) := by
  obtain ⟨b, off, e, hlt, hc⟩ := h i hi
  exact ⟨b, off, e, hlt, hc 0 (by omega), hc 1 (by omega)⟩
/-- All numbers below n have a property. -/
def alln : Nat → (Nat → Bool) → Bool
  | 0, _ => true
  | n + 1, f => alln n f && f n
theorem alln_at {f : Nat → Bool} : ∀ {n : Nat}, alln n f = true → ∀ i, i < n → f i = true
  | n + 1, h, i, hi => by
    unfold alln at h
    rw [Bool.and_eq_true] at h
    by_cases e : i = n
    · subst e; exact h.2
    · exact alln_at h.1 i (by omega)
theorem alln_true {f : Nat → Bool} : ∀ {n : Nat}, (∀ i, i < n → f i = true) → alln n f = true
  | 0, _ => rfl
  | n + 1, h => by unfold alln; rw [alln_true fun i hi => h i (by omega), h n (by omega)]; rfl
theorem alln_false {f : Nat → Bool} {n : Nat} (i : Nat) (hi : i < n) (h : f i = false) : alln n f = false := by
  cases e : alln n f
  · rfl
  · rw [alln_at e i hi] at h; cases h
theorem alln_congr {f g : Nat → Bool} {n : Nat} (h : ∀ i, i < n → f i = g i) : alln n f = alln n g := by
  cases e : alln n g
  · have : ¬ ∀ i, i < n → g i = true := fun x => by rw [alln_true x] at e; cases e
    cases e2 : alln n f
    · rfl
    · exact absurd (fun i hi => by rw [← h i hi]; exact alln_at e2 i hi) this
  · exact alln_true fun i hi => by rw [h i hi]; exact alln_at e i hi
/-- A number from low to high. -/
def ins (n a b : Int) : Bool := decide (a ≤ n ∧ n ≤ b)
/-- Whether a room is for one alone. -/
def sep (o : Int) : Bool := bits .and .i64 o 1 != 0
/-- Whether what is offered is enough. -/
def sut (r : Rm) (n : Nd) : Bool := bits .andNot .i64 n.n r.o == 0
def rmB (r : Rm) : Bool := ins r.r 1 8 && (ins r.c 1 8 && ins r.o 0 63)
def ndB (n : Nd) : Bool := ins n.c 0 9999 && ins n.n 0 63
def cfB (r : Rm) : Bool := !(sep r.o) || decide (r.r * r.c = 1)
def dpB (l : List Nd) (i : Nat) : Bool := i == 0 || decide ((ge l (i - 1)).c < (ge l i).c)
/-- The first error. -/
def chk (rs : List Rm) (ns : List Nd) (v : Int) : Int :=
  if 8 < rs.length ∨ 60 < ns.length then 3
  else if ins v 2 4 = false then 2
  else if alln rs.length (fun i => rmB (ge rs i)) = false then 2
  else if alln ns.length (fun i => ndB (ge ns i)) = false then 2
  else if alln rs.length (fun i => cfB (ge rs i)) = false then 9
  else if alln ns.length (dpB ns) = false then 5
  else 0
section
variable {rs : List Rm} {ns : List Nd} {v : Int}
theorem chk_3 (h : 8 < rs.length ∨ 60 < ns.length) : chk rs ns v = 3 := if_pos h
theorem chk_v (h : ¬ (8 < rs.length ∨ 60 < ns.length)) (h1 : ins v 2 4 = false) : chk rs ns v = 2 := by unfold chk; rw [if_neg h, if_pos h1]
theorem chk_r (h : ¬ (8 < rs.length ∨ 60 < ns.length)) (h1 : ins v 2 4 = true) (i : Nat) (hi : i < rs.length) (h2 : rmB (ge rs i) = false) : chk rs ns v = 2 := by
  unfold chk; rw [if_neg h, if_neg (by simp [h1]), if_pos (alln_false i hi h2)]
theorem chk_n (h : ¬ (8 < rs.length ∨ 60 < ns.length)) (h1 : ins v 2 4 = true) (h2 : ∀ i, i < rs.length → rmB (ge rs i) = true) (i : Nat) (hi : i < ns.length) (h3 : ndB (ge ns i) = false) : chk rs ns v = 2 := by
  unfold chk; rw [if_neg h, if_neg (by simp [h1]), if_neg (by rw [alln_true h2]; simp), if_pos (alln_false i hi h3)]
theorem chk_9 (h : ¬ (8 < rs.length ∨ 60 < ns.length)) (h1 : ins v 2 4 = true) (h2 : ∀ i, i < rs.length → rmB (ge rs i) = true) (h3 : ∀ i, i < ns.length → ndB (ge ns i) = true) (i : Nat) (hi : i < rs.length) (h4 : cfB (ge rs i) = false) : chk rs ns v = 9 := by
  unfold chk; rw [if_neg h, if_neg (by simp [h1]), if_neg (by rw [alln_true h2]; simp), if_neg (by rw [alln_true h3]; simp), if_pos (alln_false i hi h4)]
theorem chk_5 (h : ¬ (8 < rs.length ∨ 60 < ns.length)) (h1 : ins v 2 4 = true) (h2 : ∀ i, i < rs.length → rmB (ge rs i) = true) (h3 : ∀ i, i < ns.length → ndB (ge ns i) = true) (h4 : ∀ i, i < rs.length → cfB (ge rs i) = true) (i : Nat) (hi : i < ns.length) (h5 : dpB ns i = false) : chk rs ns v = 5 := by
  unfold chk; rw [if_neg h, if_neg (by simp [h1]), if_neg (by rw [alln_true h2]; simp), if_neg (by rw [alln_true h3]; simp), if_neg (by rw [alln_true h4]; simp), if_pos (alln_false i hi h5)]
theorem chk_0 (h : ¬ (8 < rs.length ∨ 60 < ns.length)) (h1 : ins v 2 4 = true) (h2 : ∀ i, i < rs.length → rmB (ge rs i) = true) (h3 : ∀ i, i < ns.length → ndB (ge ns i) = true) (h4 : ∀ i, i < rs.length → cfB (ge rs i) = true) (h5 : ∀ i, i < ns.length → dpB ns i = true) : chk rs ns v = 0 := by
  unfold chk; rw [if_neg h, if_neg (by simp [h1]), if_neg (by rw [alln_true h2]; simp), if_neg (by rw [alln_true h3]; simp), if_neg (by rw [alln_true h4]; simp), if_neg (by rw [alln_true h5]; simp)]
end
/-- The variant of a seat. -/
def var (r c v : Int) : Int := if ins v 2 4 = true ∧ ins r 0 7 = true ∧ ins c 0 7 = true then (if v = 2 then (r + c) % v else (r + 2 * c) % v) else 0
end Go.Proofs.Ytcidpgjeddogmaa.St
