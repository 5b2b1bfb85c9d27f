/- Plain laws of seating: places, right places, canonical places. No program in sight. -/
import Derived.Test.YtcidpgjeddogmaaVQ
namespace Go.Proofs.Ytcidpgjeddogmaa.Pl
open Go.Proofs.Ytcidpgjeddogmaa.Mw (ge gi ge_lt)
open Go.Proofs.Ytcidpgjeddogmaa.St
set_option linter.unusedVariables false
set_option linter.unusedSimpArgs false

/-- A place: candidate, room, row, column, variant. -/
structure Pc where
  c : Int
  m : Int
  r : Int
  l : Int
  v : Int
instance : Inhabited Pc := ⟨⟨0, 0, 0, 0, 0⟩⟩
def pcl (p : Pc) : List Value := [.int .i64 p.c, .int .i64 p.m, .int .i64 p.r, .int .i64 p.l, .int .i64 p.v]
abbrev seatv (p : Pc) : Value := .agg #[.int .i64 p.m, .int .i64 p.r, .int .i64 p.l]
abbrev pcv (p : Pc) : Value := .agg #[.int .i64 p.c, .int .i64 p.m, .int .i64 p.r, .int .i64 p.l, .int .i64 p.v]
/-- How many of the first n numbers are x. -/
def cnt (q : List Int) (x : Int) : Nat → Nat
  | 0 => 0
  | n + 1 => cnt q x n + if gi q n = x then 1 else 0
theorem cnt_le (q : List Int) (x : Int) : ∀ n, cnt q x n ≤ n
  | 0 => Nat.le_refl _
  | n + 1 => by unfold cnt; have := cnt_le q x n; split <;> omega
theorem cnt_mono (q : List Int) (x : Int) {a b : Nat} (h : a ≤ b) : cnt q x a ≤ cnt q x b := by
  induction b with
  | zero => obtain rfl : a = 0 := by omega
            exact Nat.le_refl _
  | succ b ih =>
    by_cases e : a = b + 1
    · subst e; exact Nat.le_refl _
    · have := ih (by omega)
      show _ ≤ cnt q x b + _
      omega
theorem cnt_lt (q : List Int) {a b : Nat} (h : a < b) : cnt q (gi q a) a < cnt q (gi q a) b := by
  have h1 : cnt q (gi q a) (a + 1) = cnt q (gi q a) a + 1 := by
    show cnt q (gi q a) a + (if gi q a = gi q a then 1 else 0) = _
    rw [if_pos rfl]
  have := cnt_mono q (gi q a) (show a + 1 ≤ b by omega)
  omega
/-- Room number of a list of rooms. -/
abbrev rmI (rs : List Rm) (x : Int) : Rm := ge rs x.toNat
/-- The place of candidate number i in given rooms. -/
def asp (rs : List Rm) (ns : List Nd) (v : Int) (q : List Int) (i : Nat) : Pc :=
  ⟨(ge ns i).c, gi q i, (cnt q (gi q i) i : Int) / (rmI rs (gi q i)).c, (cnt q (gi q i) i : Int) % (rmI rs (gi q i)).c, var ((cnt q (gi q i) i : Int) / (rmI rs (gi q i)).c) ((cnt q (gi q i) i : Int) % (rmI rs (gi q i)).c) v⟩
def inB (n : Nat) (q : List Int) (i : Nat) : Bool := ins (gi q i) 0 ((n : Int) - 1)
def stB (rs : List Rm) (ns : List Nd) (q : List Int) (i : Nat) : Bool := sut (rmI rs (gi q i)) (ge ns i)
def fuB (rs : List Rm) (q : List Int) (i : Nat) : Bool := decide ((cnt q (gi q i) i : Int) < (rmI rs (gi q i)).r * (rmI rs (gi q i)).c)
def asl (rs : List Rm) (ns : List Nd) (v : Int) (q : List Int) (n : Nat) : List Pc := (List.range n).map (asp rs ns v q)
/-- Places in given rooms, or the error. -/
def asg (rs : List Rm) (ns : List Nd) (v : Int) (q : List Int) : List Pc × Int :=
  if chk rs ns v ≠ 0 then ([], chk rs ns v)
  else if ¬ q.length = ns.length then ([], 1)
  else if alln q.length (inB rs.length q) = false then ([], 2)
  else if alln q.length (stB rs ns q) = false then ([], 9)
  else if alln q.length (fuB rs q) = false then ([], 3)
  else (asl rs ns v q ns.length, 0)
section
variable {rs : List Rm} {ns : List Nd} {v : Int} {q : List Int}
theorem asl_len (n : Nat) : (asl rs ns v q n).length = n := by unfold asl; simp
theorem asl_at {n i : Nat} (h : i < n) : ge (asl rs ns v q n) i = asp rs ns v q i := by
  have h1 := ge_lt (asl rs ns v q n) i (by rw [asl_len]; exact h)
  unfold asl at h1
  rw [List.getElem?_map, List.getElem?_range h] at h1
  exact (Option.some.inj h1).symm
theorem asl_succ (n : Nat) : asl rs ns v q (n + 1) = asl rs ns v q n ++ [asp rs ns v q n] := by unfold asl; rw [List.range_succ, List.map_append]; rfl
theorem asg_c (h : ¬ chk rs ns v = 0) : asg rs ns v q = ([], chk rs ns v) := if_pos h
theorem asg_1 (h : chk rs ns v = 0) (h1 : ¬ q.length = ns.length) : asg rs ns v q = ([], 1) := by unfold asg; rw [if_neg (by simp [h]), if_pos h1]
theorem asg_2 (h : chk rs ns v = 0) (h1 : q.length = ns.length) (i : Nat) (hi : i < q.length) (h2 : inB rs.length q i = false) : asg rs ns v q = ([], 2) := by
  unfold asg; rw [if_neg (by simp [h]), if_neg (by simp [h1]), if_pos (alln_false i hi h2)]
theorem asg_9 (h : chk rs ns v = 0) (h1 : q.length = ns.length) (h2 : ∀ i, i < q.length → inB rs.length q i = true) (i : Nat) (hi : i < q.length) (h3 : stB rs ns q i = false) : asg rs ns v q = ([], 9) := by
  unfold asg; rw [if_neg (by simp [h]), if_neg (by simp [h1]), if_neg (by rw [alln_true h2]; simp), if_pos (alln_false i hi h3)]
theorem asg_3 (h : chk rs ns v = 0) (h1 : q.length = ns.length) (h2 : ∀ i, i < q.length → inB rs.length q i = true) (h3 : ∀ i, i < q.length → stB rs ns q i = true) (i : Nat) (hi : i < q.length) (h4 : fuB rs q i = false) : asg rs ns v q = ([], 3) := by
  unfold asg; rw [if_neg (by simp [h]), if_neg (by simp [h1]), if_neg (by rw [alln_true h2]; simp), if_neg (by rw [alln_true h3]; simp), if_pos (alln_false i hi h4)]
theorem asg_0 (h : chk rs ns v = 0) (h1 : q.length = ns.length) (h2 : ∀ i, i < q.length → inB rs.length q i = true) (h3 : ∀ i, i < q.length → stB rs ns q i = true) (h4 : ∀ i, i < q.length → fuB rs q i = true) : asg rs ns v q = (asl rs ns v q ns.length, 0) := by
  unfold asg; rw [if_neg (by simp [h]), if_neg (by simp [h1]), if_neg (by rw [alln_true h2]; simp), if_neg (by rw [alln_true h3]; simp), if_neg (by rw [alln_true h4]; simp)]
/-- Three numbers of a seat are the same. -/
def seq (a b : Pc) : Bool := a.m == b.m && (a.r == b.r && a.l == b.l)
/-- Place number i is right by itself. -/
def riB (rs : List Rm) (ns : List Nd) (v : Int) (l : List Pc) (i : Nat) : Bool :=
  (ge l i).c == (ge ns i).c && (ins (ge l i).m 0 ((rs.length : Int) - 1) && (sut (rmI rs (ge l i).m) (ge ns i) && (ins (ge l i).r 0 ((rmI rs (ge l i).m).r - 1) && (ins (ge l i).l 0 ((rmI rs (ge l i).m).c - 1) && (ge l i).v == var (ge l i).r (ge l i).l v))))
def neB (l : List Pc) (i : Nat) : Bool := alln i fun k => !(seq (ge l k) (ge l i))
/-- Whether places are right. -/
def rgt (rs : List Rm) (ns : List Nd) (v : Int) (l : List Pc) : Bool :=
  chk rs ns v == 0 && (l.length == ns.length && alln l.length fun i => riB rs ns v l i && neB l i)
theorem rgt_c (l : List Pc) (h : ¬ chk rs ns v = 0) : rgt rs ns v l = false := by unfold rgt; rw [beq_eq_false_iff_ne.2 h]; rfl
theorem rgt_l {l : List Pc} (h : ¬ l.length = ns.length) : rgt rs ns v l = false := by unfold rgt; rw [beq_eq_false_iff_ne.2 h]; simp
theorem rgt_r {l : List Pc} (i : Nat) (hi : i < l.length) (h : riB rs ns v l i = false) : rgt rs ns v l = false := by
  unfold rgt; rw [alln_false (f := fun i => riB rs ns v l i && neB l i) i hi (by simp [h])]; simp
theorem rgt_n {l : List Pc} (i : Nat) (hi : i < l.length) (h : neB l i = false) : rgt rs ns v l = false := by
  unfold rgt; rw [alln_false (f := fun i => riB rs ns v l i && neB l i) i hi (by simp [h])]; simp
theorem rgt_y {l : List Pc} (h : chk rs ns v = 0) (h1 : l.length = ns.length) (h2 : ∀ i, i < l.length → riB rs ns v l i = true ∧ neB l i = true) : rgt rs ns v l = true := by
  unfold rgt; rw [h, h1, ← h1, alln_true fun i hi => by rw [(h2 i hi).1, (h2 i hi).2]; rfl]; simp
theorem chk_0_inv (h : chk rs ns v = 0) : rs.length ≤ 8 ∧ ns.length ≤ 60 ∧ ins v 2 4 = true ∧ (∀ i, i < rs.length → rmB (ge rs i) = true) ∧ (∀ i, i < ns.length → ndB (ge ns i) = true) ∧ (∀ i, i < rs.length → cfB (ge rs i) = true) ∧ ∀ i, i < ns.length → dpB ns i = true := by
  unfold chk at h
  split at h
  · cases h
  split at h
  · cases h
  split at h
  · cases h
  split at h
  · cases h
  split at h
  · cases h
  split at h
  · cases h
  rename_i h1 h2 h3 h4 h5 h6
  simp only [Bool.not_eq_false] at h2 h3 h4 h5 h6
  exact ⟨by omega, by omega, h2, alln_at h3, alln_at h4, alln_at h5, alln_at h6⟩
end
end Go.Proofs.Ytcidpgjeddogmaa.Pl
