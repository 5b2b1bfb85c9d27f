/- Words for memory: blocks known whole; slices that read as lists of integers or of rows; worlds in which one block alone has turned. No program in sight. -/
import Derived.WalkKit
import Derived.Below
import Derived.Laws.OwnMore
import Derived.Deep.AppendLies
import Derived.Deep.Draws
import Derived.Laws.Rows
namespace Go.Proofs.YtdikoffppjoomaaGreat.Mw
open Go.RowKit
set_option linter.unusedVariables false
set_option linter.unusedSimpArgs false

theorem ret_val {a b : Value} (h : a = b) : Ending.returned a = .returned b := by rw [h]
theorem ret_int {k : IntKind} {a b : Int} (h : a = b) : Ending.returned (.int k a) = .returned (.int k b) := by rw [h]
theorem ret_bool {a b : Bool} (h : a = b) : Ending.returned (.bool a) = .returned (.bool b) := by rw [h]
theorem bl_alloc {a w : World} (h : Below a.heap.size a w) (o : Obj) : Below a.heap.size a (w.alloc o) := h.alloc h.size o
theorem bl_trans {a b c : World} (h : Below a.heap.size a b) (k : Below b.heap.size b c) : Below a.heap.size a c := h.trans (k.mono h.size)
theorem bl_drewN {B : Nat} {a w : World} (h : Below B a w) (n : Nat) : Below B a (w.drewN n) := ⟨h.os, h.tape, h.output, h.size, h.block⟩
theorem bcell {W w1 : World} (hb : Below W.heap.size W w1) (n : Nat) (hn : n ≤ W.heap.size) : (∀ b o, b < n → w1.cell? ⟨b, o, none⟩ = W.cell? ⟨b, o, none⟩) ∧ (∀ b o, b < n → w1.frozen? ⟨b, o, none⟩ = W.frozen? ⟨b, o, none⟩) :=
  ⟨fun b o h => hb.cell (p := ⟨b, o, none⟩) (Nat.lt_of_lt_of_le h hn), fun b o h => hb.frozen (p := ⟨b, o, none⟩) (Nat.lt_of_lt_of_le h hn)⟩

theorem loop_len (s : ByteArray) : ∀ (n i : Nat) (r : List UInt8), s.size - i = n → (ByteArray.toList.loop s i r).length = n + r.length
  | 0, i, r, h => by
    rw [ByteArray.toList.loop, if_neg (by omega)]; simp
  | n + 1, i, r, h => by
    rw [ByteArray.toList.loop, if_pos (by omega), loop_len s n (i + 1) _ (by omega)]; simp; omega
theorem toList_len (s : ByteArray) : s.toList.length = s.size := by
  unfold ByteArray.toList
  rw [loop_len s s.size 0 [] (by omega)]; simp
theorem stem_ne (s : ByteArray) (h : s.size ≠ 0) : s.toList.isEmpty = false ∧ ¬ s.toList = [] := by
  have := toList_len s
  constructor
  · cases e : s.toList with
    | nil => rw [e] at this; simp at this; omega
    | cons a l => rfl
  · intro e; rw [e] at this; simp at this; omega

/-- An integer of 64 bits. -/
def I64 (x : Int) : Prop := -9223372036854775808 ≤ x ∧ x ≤ 9223372036854775807

/-- Block g is just these cells, none frozen. -/
def Bk (w : World) (g : Nat) (t : TypeId) (cs : Array Value) : Prop := w.heap[g]? = some (.cells cs t (0, 0))
section
variable {w w' : World} {g : Nat} {t : TypeId} {cs : Array Value}
theorem Bk.lt (h : Bk w g t cs) : g < w.heap.size := by
  rcases Nat.lt_or_ge g w.heap.size with hlt | hge
  · exact hlt
  · unfold Bk at h; rw [Array.getElem?_eq_none hge] at h; cases h
theorem Bk.cell (h : Bk w g t cs) (i : Nat) : w.cell? ⟨g, i, none⟩ = cs[i]? := cell_of_row w g i cs t (0, 0) h
theorem Bk.frozen (h : Bk w g t cs) (i : Nat) : w.frozen? ⟨g, i, none⟩ = false := by
  unfold Bk at h
  simp [World.frozen?, h]
theorem Bk.new (w : World) (t : TypeId) (cs : Array Value) : Bk (w.alloc (.cells cs t)) w.heap.size t cs := heap_alloc_new w _
theorem Bk.new' {w : World} {t : TypeId} {cs : Array Value} {g : Nat} (hg : g = w.heap.size) : Bk (w.alloc (.cells cs t)) g t cs := by subst hg; exact heap_alloc_new w _
theorem Bk.drew (h : Bk w g t cs) : Bk w.drew g t cs := h
theorem Bk.drewN (h : Bk w g t cs) (n : Nat) : Bk (w.drewN n) g t cs := h
theorem Bk.alloc (h : Bk w g t cs) (o : Obj) : Bk (w.alloc o) g t cs := (Below.heap_alloc w o g h.lt).trans h
theorem Bk.set (h : Bk w g t cs) (i : Nat) (u : Value) : Bk (w.setCell ⟨g, i, none⟩ u) g t (cs.setIfInBounds i u) := by
  unfold Bk at h ⊢
  simp [World.setCell, Array.getElem?_modify, h]
theorem Bk.set4 {a0 a1 a2 a3 b0 b1 b2 b3 : Value} (h : Bk w g t #[a0, a1, a2, a3]) : Bk ((((w.setCell ⟨g, 0, none⟩ b0).setCell ⟨g, 1, none⟩ b1).setCell ⟨g, 2, none⟩ b2).setCell ⟨g, 3, none⟩ b3) g t #[b0, b1, b2, b3] := (((h.set 0 b0).set 1 b1).set 2 b2).set 3 b3
theorem Bk.far (h : Bk w g t cs) {p : Addr} (hp : g ≠ p.block) (u : Value) : Bk (w.setCell p u) g t cs := (Below.heap_setCell w p u g hp).trans h
theorem Bk.below {B : Nat} (h : Bk w g t cs) (hb : Below B w w') (hg : g < B) : Bk w' g t cs := (hb.block g hg).trans h
theorem Bk.old (h : Bk w g t cs) (hb : Below w.heap.size w w') : Bk w' g t cs := h.below hb h.lt
theorem Bk.grown {row : Option Nat} (h : Bk w g t cs) (hb : w.grownBy w' row) (hg : some g ≠ row) : Bk w' g t cs := (hb.block g h.lt hg).trans h
theorem Bk.kept {r : Nat} (h : Bk w g t cs) (hb : w.grownBy w' (some r)) (hg : g ≠ r) : Bk w' g t cs := h.grown hb (by simpa using hg)
theorem Bk.ne {g' : Nat} {t' : TypeId} {cs' : Array Value} (h : Bk w g t cs) (h' : Bk w g' t' cs') (hne : t ≠ t') : g ≠ g' := by
  rintro rfl
  unfold Bk at h h'
  rw [h] at h'
  injection h' with h'
  injection h' with _ ht
  exact hne ht
end

/-- Only block g, and what is new, has turned. -/
theorem gb_refl (w : World) (r : Option Nat) : w.grownBy w r := ⟨rfl, rfl, rfl, Nat.le_refl _, fun _ _ _ => rfl⟩
theorem gb_trans {a b c : World} {r : Option Nat} (h : a.grownBy b r) (k : b.grownBy c r) : a.grownBy c r :=
  ⟨k.os.trans h.os, k.tape.trans h.tape, k.output.trans h.output, Nat.le_trans h.size k.size, fun i hi hne => (k.block i (Nat.lt_of_lt_of_le hi h.size) hne).trans (h.block i hi hne)⟩
theorem gb_drewN {a w : World} {r : Option Nat} (h : a.grownBy w r) (n : Nat) : a.grownBy (w.drewN n) r := ⟨h.os, h.tape, h.output, h.size, h.block⟩
theorem gb_drew {a w : World} {r : Option Nat} (h : a.grownBy w r) : a.grownBy w.drew r := ⟨h.os, h.tape, h.output, h.size, h.block⟩
theorem gb_alloc {a w : World} {r : Option Nat} (h : a.grownBy w r) (o : Obj) : a.grownBy (w.alloc o) r :=
  ⟨h.os, h.tape, h.output, Nat.le_trans h.size (by simp), fun i hi hne => (Below.heap_alloc w o i (Nat.lt_of_lt_of_le hi h.size)).trans (h.block i hi hne)⟩
theorem gb_set {a w : World} {r : Option Nat} (h : a.grownBy w r) {p : Addr} (hp : some p.block = r ∨ a.heap.size ≤ p.block) (u : Value) : a.grownBy (w.setCell p u) r :=
  ⟨h.os, h.tape, h.output, by simpa [World.setCell] using h.size, fun i hi hne => (Below.heap_setCell w p u i (by
    rintro rfl
    rcases hp with hp | hp
    · exact hne hp
    · omega)).trans (h.block i hi hne)⟩
theorem gb_below {a w w' : World} {r : Option Nat} (h : a.grownBy w r) (hb : Below w.heap.size w w') : a.grownBy w' r :=
  gb_trans h ⟨hb.os, hb.tape, hb.output, hb.size, fun i hi _ => hb.block i hi⟩
theorem gb_of {a w : World} (r : Option Nat) (h : Below a.heap.size a w) : a.grownBy w r := gb_below (gb_refl a r) h
theorem gb_grown {a w w' : World} {r q : Option Nat} (h : a.grownBy w r) (hg : w.grownBy w' q) (hq : ∀ k, q = some k → a.heap.size ≤ k) : a.grownBy w' r :=
  ⟨hg.os.trans h.os, hg.tape.trans h.tape, hg.output.trans h.output, Nat.le_trans h.size hg.size, fun i hi hne => (hg.block i (Nat.lt_of_lt_of_le hi h.size) (fun e => by have := hq i e.symm; omega)).trans (h.block i hi hne)⟩
theorem bl_gb {a w w' : World} {r : Nat} (h : Below a.heap.size a w) (hg : w.grownBy w' (some r)) (hr : a.heap.size ≤ r) : Below a.heap.size a w' :=
  h.grown hg h.size (fun k hk => by cases hk; exact hr)
theorem gcell {W w1 : World} {r : Nat} (hb : W.grownBy w1 (some r)) (b : Nat) (h1 : b < W.heap.size) (h2 : b ≠ r) : (∀ o, w1.cell? ⟨b, o, none⟩ = W.cell? ⟨b, o, none⟩) ∧ (∀ o, w1.frozen? ⟨b, o, none⟩ = W.frozen? ⟨b, o, none⟩) :=
  ⟨fun o => World.cell?_of_block (a := ⟨b, o, none⟩) (hb.block b h1 (by simpa using h2)), fun o => World.frozen?_of_block (a := ⟨b, o, none⟩) (hb.block b h1 (by simpa using h2))⟩

/-- Element number i of a list of integers. -/
def gi (l : List Int) (i : Nat) : Int := l.getD i 0
theorem gi_lt (l : List Int) (i : Nat) (h : i < l.length) : l[i]? = some (gi l i) := by
  unfold gi; rw [List.getD_eq_getElem?_getD, List.getElem?_eq_getElem h]; rfl
theorem gi_mem (l : List Int) (i : Nat) (h : i < l.length) : gi l i ∈ l := by
  have := gi_lt l i h
  exact List.mem_of_getElem? this
theorem gi_snoc (l : List Int) (x : Int) : gi (l ++ [x]) l.length = x := by unfold gi; simp
theorem gi_left (l m : List Int) (i : Nat) (h : i < l.length) : gi (l ++ m) i = gi l i := by
  unfold gi; rw [List.getD_eq_getElem?_getD, List.getD_eq_getElem?_getD, List.getElem?_append_left h]
theorem gi_past (l : List Int) (i : Nat) (h : ¬ i < l.length) : gi l i = 0 := by
  unfold gi; rw [List.getD_eq_getElem?_getD, List.getElem?_eq_none (by omega)]; rfl

/-- The address lies in another block. -/
def Away (r : Nat) (A : Option Addr) : Prop := ∀ a, A = some a → a.block ≠ r
theorem Away.none (r : Nat) : Away r none := fun _ h => by cases h
theorem Away.some {r : Nat} {a : Addr} (h : a.block ≠ r) : Away r (some a) := fun _ e => by cases e; exact h
theorem Away.own {r base : Nat} {w : World} {e : TypeId} {size n : Nat} {A : Option Addr} {m c : Nat} {xs : List Value} (h : w.ownsRow base e size (.slice A m c) n xs) (hr : r < base) : Away r A := fun a ha => by
  have := h.lt a.block (by subst ha; rfl)
  omega

/-- A slice with address A reads as a list of integers of one kind. -/
def RdI (w : World) (kd : IntKind) (A : Option Addr) (l : List Int) : Prop :=
  ∀ i, i < l.length → ∃ b off, A = some ⟨b, off, none⟩ ∧ b < w.heap.size ∧ w.cell? ⟨b, off + i, none⟩ = some (.int kd (gi l i))
section
variable {w w' : World} {kd : IntKind} {A : Option Addr} {l : List Int}
theorem RdI.nil (w : World) (kd : IntKind) (A : Option Addr) : RdI w kd A [] := fun _ h => absurd h (by simp)
theorem RdI.old (h : RdI w kd A l) (hb : Below w.heap.size w w') : RdI w' kd A l := fun i hi => by
  obtain ⟨b, off, e, hlt, hc⟩ := h i hi
  exact ⟨b, off, e, Nat.lt_of_lt_of_le hlt hb.size, (hb.cell (p := ⟨b, off + i, none⟩) hlt).trans hc⟩
theorem RdI.grown {r : Nat} (h : RdI w kd A l) (hg : w.grownBy w' (some r)) (hA : Away r A) : RdI w' kd A l := fun i hi => by
  obtain ⟨b, off, e, hlt, hc⟩ := h i hi
  exact ⟨b, off, e, Nat.lt_of_lt_of_le hlt hg.size, (World.cell?_of_block (a := ⟨b, off + i, none⟩) (hg.block b hlt (by simpa using hA _ e))).trans hc⟩
theorem RdI.alloc (h : RdI w kd A l) (o : Obj) : RdI (w.alloc o) kd A l := h.old ((Below.refl _ _).alloc (Nat.le_refl _) o)
theorem RdI.drewN (h : RdI w kd A l) (n : Nat) : RdI (w.drewN n) kd A l := h
theorem RdI.far (h : RdI w kd A l) {p : Addr} (hA : Away p.block A) (u : Value) : RdI (w.setCell p u) kd A l :=
  h.grown (gb_set (gb_refl w (some p.block)) (.inl rfl) u) hA
theorem RdI.own {base : Nat} {e : TypeId} {c : Nat} {n : Nat} (h : w.ownsRow base e 1 (.slice A n c) n (l.map (Value.int kd))) : RdI w kd A l := fun i hi => by
  have hn : n = l.length := by have := h.1; simpa using this.symm
  obtain ⟨g, cap, hv, _, hlt⟩ := h.form (by omega)
  have hA : A = some ⟨g, 0, none⟩ := by injection hv
  subst hA
  refine ⟨g, 0, rfl, hlt, ?_⟩
  rw [Nat.zero_add, h.cellAt i (by omega), List.getElem?_map, gi_lt l i hi]
  rfl
theorem RdI.lit' {W W0 : World} {g : Nat} {cs : Array Value} {T : TypeId} (hW : W = W0.alloc (.cells cs T)) (hcs : (l.map (Value.int kd)).toArray = cs) (hg : g = W0.heap.size) : RdI W kd (some ⟨g, 0, none⟩) l := by
  subst hW hcs hg
  intro i hi
  refine ⟨_, _, rfl, by simp, ?_⟩
  rw [World.cell?_alloc_at _ _ _ _ rfl]
  simp [gi, List.getElem?_eq_getElem hi]
theorem RdI.bk {g : Nat} {cs : Array Value} {T : TypeId} (h : Bk w g T cs) (hcs : (l.map (Value.int kd)).toArray = cs) : RdI w kd (some ⟨g, 0, none⟩) l := by
  subst hcs
  intro i hi
  refine ⟨_, _, rfl, h.lt, ?_⟩
  rw [Nat.zero_add, h.cell]
  simp [gi, List.getElem?_eq_getElem hi]
/-- A row of the call's own, of integers, as a slice. -/
theorem own_ints {base : Nat} {e : TypeId} {v : Value} {n : Nat} (h : w.ownsRow base e 1 v n (l.map (Value.int kd))) : ∃ A c, v = .slice A l.length c ∧ RdI w kd A l ∧ ∀ a, A = some a → base ≤ a.block ∧ a.block < w.heap.size := by
  have hn : n = l.length := by have := h.1; simpa using this.symm
  subst hn
  rcases h.2 with ⟨rfl, h0⟩ | ⟨g, cap, cur, rfl, hg, _⟩
  · obtain rfl := List.length_eq_zero_iff.1 h0
    exact ⟨none, 0, rfl, RdI.nil _ _ _, fun a ha => by cases ha⟩
  · exact ⟨_, cap, rfl, RdI.own h, fun a ha => h.lt a.block (by cases ha; rfl)⟩
theorem ints_eq {a b : List Int} (hl : a.length = b.length) (h : ∀ j, j < a.length → gi a j = gi b j) : a = b := by
  apply List.ext_getElem? 
  intro i
  by_cases hi : i < a.length
  · rw [gi_lt a i hi, gi_lt b i (by omega), h i hi]
  · rw [List.getElem?_eq_none (by omega), List.getElem?_eq_none (by omega)]
end

theorem cell_alloc {w : World} {a : Addr} {v : Value} (h : w.cell? a = some v) (o : Obj) : (w.alloc o).cell? a = some v := (World.cell?_alloc_lt w o a (World.block_lt_of_cell? w a h)).trans h
theorem cell_drew {w : World} {a : Addr} {v : Value} (h : w.cell? a = some v) : w.drew.cell? a = some v := h
theorem cell_far {w : World} {a p : Addr} {v : Value} (h : w.cell? a = some v) (hne : p.block ≠ a.block) (u : Value) : (w.setCell p u).cell? a = some v := (World.cell?_setCell_other w p a u (fun e => hne (by rw [e]))).trans h
end Go.Proofs.YtdikoffppjoomaaGreat.Mw
