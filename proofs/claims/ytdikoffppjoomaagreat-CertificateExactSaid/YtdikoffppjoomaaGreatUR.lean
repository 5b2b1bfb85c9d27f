/- Words for memory: slices of values of one cell that read as lists. No program in sight. -/
import Derived.Test.YtdikoffppjoomaaGreatMW
namespace Go.Proofs.YtdikoffppjoomaaGreat.Mw
open Go.RowKit
set_option linter.unusedVariables false
set_option linter.unusedSimpArgs false

section
variable {α : Type} [Inhabited α]
/-- Element number i. -/
def ge (l : List α) (i : Nat) : α := l.getD i default
theorem ge_lt (l : List α) (i : Nat) (h : i < l.length) : l[i]? = some (ge l i) := by
  unfold ge; rw [List.getD_eq_getElem?_getD, List.getElem?_eq_getElem h]; rfl
theorem ge_left (l m : List α) (i : Nat) (h : i < l.length) : ge (l ++ m) i = ge l i := by
  unfold ge; rw [List.getD_eq_getElem?_getD, List.getD_eq_getElem?_getD, List.getElem?_append_left h]
theorem ge_snoc (l : List α) (p : α) : ge (l ++ [p]) l.length = p := by unfold ge; simp
theorem ge_mem (l : List α) (i : Nat) (h : i < l.length) : ge l i ∈ l := List.mem_of_getElem? (ge_lt l i h)
theorem ge_set {l : List α} {j : Nat} {v : α} (hj : j < l.length) (i : Nat) : ge (l.set j v) i = if i = j then v else ge l i := by
  unfold ge
  rw [List.getD_eq_getElem?_getD, List.getD_eq_getElem?_getD, List.getElem?_set]
  by_cases e : j = i
  · subst e; rw [if_pos rfl, if_pos hj, if_pos rfl]; rfl
  · rw [if_neg e, if_neg (fun x => e x.symm)]
theorem ge_ext {a b : List α} (hl : a.length = b.length) (h : ∀ j, j < a.length → ge a j = ge b j) : a = b := by
  apply List.ext_getElem?
  intro i
  by_cases hi : i < a.length
  · rw [ge_lt a i hi, ge_lt b i (by omega), h i hi]
  · rw [List.getElem?_eq_none (by omega), List.getElem?_eq_none (by omega)]
variable {enc : α → Value}
/-- A slice with address A reads as a list of values of one cell. -/
def RdE (enc : α → Value) (w : World) (A : Option Addr) (l : List α) : Prop :=
  ∀ i, i < l.length → ∃ b off, A = some ⟨b, off, none⟩ ∧ b < w.heap.size ∧ w.cell? ⟨b, off + i, none⟩ = some (enc (ge l i))
variable {w w' : World} {A : Option Addr} {l : List α}
theorem RdE.nil (enc : α → Value) (w : World) (A : Option Addr) : RdE enc w A [] := fun _ h => absurd h (by simp)
theorem RdE.old (h : RdE enc w A l) (hb : Below w.heap.size w w') : RdE enc w' A l := fun i hi => by
  obtain ⟨b, off, e, hlt, hc⟩ := h i hi
  exact ⟨b, off, e, Nat.lt_of_lt_of_le hlt hb.size, (hb.cell (p := ⟨b, off + i, none⟩) hlt).trans hc⟩
theorem RdE.grown {r : Nat} (h : RdE enc w A l) (hg : w.grownBy w' (some r)) (hA : Away r A) : RdE enc w' A l := fun i hi => by
  obtain ⟨b, off, e, hlt, hc⟩ := h i hi
  exact ⟨b, off, e, Nat.lt_of_lt_of_le hlt hg.size, (World.cell?_of_block (a := ⟨b, off + i, none⟩) (hg.block b hlt (by simpa using hA _ e))).trans hc⟩
theorem RdE.alloc (h : RdE enc w A l) (o : Obj) : RdE enc (w.alloc o) A l := h.old ((Below.refl _ _).alloc (Nat.le_refl _) o)
theorem RdE.drew (h : RdE enc w A l) : RdE enc w.drew A l := h
theorem RdE.drewN (h : RdE enc w A l) (n : Nat) : RdE enc (w.drewN n) A l := h
theorem RdE.far (h : RdE enc w A l) {p : Addr} (hA : Away p.block A) (u : Value) : RdE enc (w.setCell p u) A l :=
  h.grown (gb_set (gb_refl w (some p.block)) (.inl rfl) u) hA
theorem RdE.own {base : Nat} {e : TypeId} {c : Nat} {n : Nat} (h : w.ownsRow base e 1 (.slice A n c) n (l.map enc)) : RdE enc w A l := fun i hi => by
  have hn : n = l.length := by have := h.1; simpa using this.symm
  obtain ⟨g, cap, hv, _, hlt⟩ := h.form (by omega)
  have hA : A = some ⟨g, 0, none⟩ := by injection hv
  subst hA
  refine ⟨g, 0, rfl, hlt, ?_⟩
  rw [Nat.zero_add, h.cellAt i (by omega), List.getElem?_map, ge_lt l i hi]
  rfl
theorem RdE.bk {g : Nat} {cs : Array Value} {T : TypeId} (h : Bk w g T cs) (hcs : (l.map enc).toArray = cs) : RdE enc w (some ⟨g, 0, none⟩) l := by
  subst hcs
  intro i hi
  refine ⟨_, _, rfl, h.lt, ?_⟩
  rw [Nat.zero_add, h.cell, List.getElem?_toArray, List.getElem?_map, ge_lt l i hi]
  rfl
/-- A row of the call's own as a slice. -/
theorem own_enc {base : Nat} {e : TypeId} {v : Value} {n : Nat} (h : w.ownsRow base e 1 v n (l.map enc)) : ∃ A c, v = .slice A l.length c ∧ RdE enc w A l ∧ ∀ a, A = some a → base ≤ a.block ∧ a.block < w.heap.size := by
  have hn : n = l.length := by have := h.1; simpa using this.symm
  subst hn
  rcases h.2 with ⟨rfl, h0⟩ | ⟨g, cap, cur, rfl, hg, _⟩
  · obtain rfl := List.length_eq_zero_iff.1 h0
    exact ⟨none, 0, rfl, RdE.nil _ _ _, fun a ha => by cases ha⟩
  · exact ⟨_, cap, rfl, RdE.own h, fun a ha => h.lt a.block (by cases ha; rfl)⟩
theorem rde_nil (h : RdE enc w none l) : l = [] := by
  cases l with
  | nil => rfl
  | cons a l => obtain ⟨b, off, e, _⟩ := h 0 (by simp); cases e
theorem rde_news {a : Addr} (h : RdE enc w (some a) l) : ∀ (j : Nat) (u : Value), (l.map enc)[j]? = some u → w.cell? (a.add j) = some u := fun j u hu => by
  have hj : j < l.length := by
    rcases Nat.lt_or_ge j l.length with h1 | h1
    · exact h1
    · rw [List.getElem?_eq_none (by simpa using h1)] at hu; cases hu
  obtain ⟨b, off, e, _, hc⟩ := h j hj
  cases e
  rw [List.getElem?_map, ge_lt l j hj] at hu
  cases hu
  have e1 : (⟨b, off, none⟩ : Addr).add j = ⟨b, off + j, none⟩ := by
    unfold Addr.add
    by_cases h : j = 0
    · subst h; rfl
    · simp [h]
  rw [e1]; exact hc
theorem rde_set {b off : Nat} (h : RdE enc w (some ⟨b, off, none⟩) l) (n : Nat) (hn : n < l.length) (v : α) : RdE enc (w.setCell ⟨b, off + n, none⟩ (enc v)) (some ⟨b, off, none⟩) (l.set n v) := fun i hi => by
  have hi' : i < l.length := by simpa using hi
  obtain ⟨_, _, e, hlt, hc⟩ := h i hi'
  cases e
  obtain ⟨_, _, e, _, hcn⟩ := h n hn
  cases e
  refine ⟨b, off, rfl, by simpa using hlt, ?_⟩
  rw [ge_set hn]
  by_cases hin : i = n
  · subst hin
    rw [World.cell?_setCell_same _ _ _ hcn, if_pos rfl]
  · rw [World.cell?_setCell_other _ _ _ _ (fun e => hin (by have := congrArg Addr.off e; simp at this; omega)), hc, if_neg hin]
end
theorem enc_one {α : Type} {enc : α → Value} (l : List α) (h : ∀ a, (enc a).oneCell' = true) : ∀ u ∈ l.map enc, u.oneCell' = true := fun u hu => by
  obtain ⟨k, _, rfl⟩ := List.mem_map.1 hu
  exact h k
/-- One cell in new memory. -/
theorem one_new (w : World) (v : Value) (T : TypeId) {g : Nat} (hg : g = w.heap.size) : ∀ (j : Nat) (u : Value), ([v] : List Value)[j]? = some u → (w.alloc (.cells #[v] T)).cell? ((⟨g, 0, none⟩ : Addr).add j) = some u := fun j u hu => by
  subst hg
  have hj : j = 0 := by
    rcases Nat.eq_zero_or_pos j with h | h
    · exact h
    · rw [List.getElem?_eq_none (by simp; omega)] at hu; cases hu
  subst hj
  cases hu
  exact (Bk.new w T #[v]).cell 0
theorem own_old {w w' : World} {b : Nat} {e : TypeId} {sz n : Nat} {v : Value} {xs : List Value} (h : w.ownsRow b e sz v n xs) (hb : Below w.heap.size w w') : w'.ownsRow b e sz v n xs :=
  h.kept (row := none) ⟨hb.os, hb.tape, hb.output, hb.size, fun i hi _ => hb.block i hi⟩ (Classical.em _)
theorem own_frozen {w : World} {base : Nat} {e : TypeId} {size n m c : Nat} {A : Option Addr} {xs : List Value} (h : w.ownsRow base e size (.slice A m c) n xs) : ∀ a, A = some a → ∀ o, w.frozen? ⟨a.block, o, none⟩ = false := by
  intro a ha o
  subst ha
  rcases h.2 with ⟨h0, _⟩ | ⟨g, cap, cur, e1, _, hc, _⟩
  · cases h0
  · cases e1
    exact Bk.frozen hc o
end Go.Proofs.YtdikoffppjoomaaGreat.Mw
namespace Go.Proofs.YtdikoffppjoomaaGreat.Mw
open Go.RowKit
set_option linter.unusedVariables false
set_option linter.unusedSimpArgs false

theorem flat_len {α : Type} {k : Nat} {enc : α → List Value} (hk : ∀ a, (enc a).length = k) : ∀ l : List α, (l.flatMap enc).length = l.length * k
  | [] => by simp
  | x :: l => by rw [List.flatMap_cons, List.length_append, hk, flat_len hk l, List.length_cons, Nat.succ_mul, Nat.add_comm]
theorem flat_at {α : Type} [Inhabited α] {k : Nat} {enc : α → List Value} (hk : ∀ a, (enc a).length = k) : ∀ (l : List α) (i j : Nat), i < l.length → j < k → (l.flatMap enc)[i * k + j]? = (enc (ge l i))[j]?
  | x :: l, 0, j, _, hj => by
    rw [List.flatMap_cons, Nat.zero_mul, Nat.zero_add, List.getElem?_append_left (by rw [hk]; exact hj)]; rfl
  | x :: l, i + 1, j, hi, hj => by
    have h1 : (i + 1) * k + j = k + (i * k + j) := by rw [Nat.succ_mul]; omega
    rw [List.flatMap_cons, h1, List.getElem?_append_right (by rw [hk]; omega), hk, Nat.add_sub_cancel_left, flat_at hk l i j (by simpa using hi) hj]
    rfl
/-- A slice with address A reads as a list of values of k cells. -/
def RdR {α : Type} [Inhabited α] (k : Nat) (enc : α → List Value) (w : World) (A : Option Addr) (l : List α) : Prop :=
  ∀ i, i < l.length → ∃ b off, A = some ⟨b, off, none⟩ ∧ b < w.heap.size ∧ ∀ j, j < k → w.cell? ⟨b, off + i * k + j, none⟩ = (enc (ge l i))[j]?
section
variable {α : Type} [Inhabited α] {k : Nat} {enc : α → List Value} {w w' : World} {A : Option Addr} {l : List α}
theorem RdR.nil (w : World) (A : Option Addr) : RdR k enc w A ([] : List α) := fun _ h => absurd h (by simp)
theorem RdR.old (h : RdR k enc w A l) (hb : Below w.heap.size w w') : RdR k enc w' A l := fun i hi => by
  obtain ⟨b, off, e, hlt, hc⟩ := h i hi
  exact ⟨b, off, e, Nat.lt_of_lt_of_le hlt hb.size, fun j hj => (hb.cell (p := ⟨b, off + i * k + j, none⟩) hlt).trans (hc j hj)⟩
theorem RdR.grown {r : Nat} (h : RdR k enc w A l) (hg : w.grownBy w' (some r)) (hA : Away r A) : RdR k enc w' A l := fun i hi => by
  obtain ⟨b, off, e, hlt, hc⟩ := h i hi
  exact ⟨b, off, e, Nat.lt_of_lt_of_le hlt hg.size, fun j hj => (World.cell?_of_block (a := ⟨b, off + i * k + j, none⟩) (hg.block b hlt (by simpa using hA _ e))).trans (hc j hj)⟩
theorem RdR.alloc (h : RdR k enc w A l) (o : Obj) : RdR k enc (w.alloc o) A l := h.old ((Below.refl _ _).alloc (Nat.le_refl _) o)
theorem RdR.drew (h : RdR k enc w A l) : RdR k enc w.drew A l := h
theorem RdR.far (h : RdR k enc w A l) {p : Addr} (hA : Away p.block A) (u : Value) : RdR k enc (w.setCell p u) A l :=
  h.grown (gb_set (gb_refl w (some p.block)) (.inl rfl) u) hA
theorem RdR.own {base : Nat} {e : TypeId} {c n : Nat} (hk : ∀ a, (enc a).length = k) (h : w.ownsRow base e k (.slice A n c) n (l.flatMap enc)) (h0 : 0 < k) : RdR k enc w A l := fun i hi => by
  have hn : n = l.length := by
    have := h.1
    rw [flat_len hk] at this
    exact (Nat.eq_of_mul_eq_mul_right h0 this).symm
  obtain ⟨g, cap, hv, _, hlt⟩ := h.form (by omega)
  have hA : A = some ⟨g, 0, none⟩ := by injection hv
  subst hA
  refine ⟨g, 0, rfl, hlt, fun j hj => ?_⟩
  have hlt2 : i * k + j < n * k := by
    subst hn
    exact Nat.lt_of_lt_of_le (show i * k + j < (i + 1) * k by rw [Nat.succ_mul]; omega) (Nat.mul_le_mul_right k (by omega))
  rw [Nat.zero_add, h.cellAt (i * k + j) hlt2, flat_at hk l i j hi hj]
/-- A row of the call's own as a slice. -/
theorem own_rows {base : Nat} {e : TypeId} {v : Value} {n : Nat} (hk : ∀ a, (enc a).length = k) (h0 : 0 < k) (h : w.ownsRow base e k v n (l.flatMap enc)) : ∃ A c, v = .slice A l.length c ∧ l.length ≤ c ∧ RdR k enc w A l ∧ ∀ a, A = some a → base ≤ a.block ∧ a.block < w.heap.size := by
  have hn : n = l.length := by
    have := h.1
    rw [flat_len hk] at this
    exact (Nat.eq_of_mul_eq_mul_right h0 this).symm
  subst hn
  rcases h.2 with ⟨rfl, h1⟩ | ⟨g, cap, cur, rfl, hg, _, hc, _⟩
  · obtain rfl := List.length_eq_zero_iff.1 h1
    exact ⟨none, 0, rfl, Nat.le_refl _, RdR.nil _ _, fun a ha => by cases ha⟩
  · exact ⟨_, cap, rfl, hc, RdR.own hk h h0, fun a ha => h.lt a.block (by cases ha; rfl)⟩
theorem RdR.bk {g : Nat} {cs : Array Value} {T : TypeId} (hk : ∀ a, (enc a).length = k) (h : Bk w g T cs) (hcs : (l.flatMap enc).toArray = cs) : RdR k enc w (some ⟨g, 0, none⟩) l := by
  subst hcs
  intro i hi
  refine ⟨_, _, rfl, h.lt, fun j hj => ?_⟩
  rw [Nat.zero_add, h.cell, List.getElem?_toArray, flat_at hk l i j hi hj]
end
end Go.Proofs.YtdikoffppjoomaaGreat.Mw
