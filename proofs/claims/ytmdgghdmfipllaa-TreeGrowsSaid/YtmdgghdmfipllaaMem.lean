/- General lemmas on memory: worlds that have grown; a region that draws its order and holds calls that make memory. No program in sight. -/
import Derived.WalkKit
import Derived.Deep.QuietTactic
import Derived.BigQuiet
import Derived.Deep.Draws
namespace Go.Proofs.Ytmdgghdmfipllaa.Mm
open Go.RowKit

/-- What a world has grown by. -/
structure Ex where
  obs : Array Obj
  cnt : Nat
instance : Inhabited Ex := ⟨⟨#[], 0⟩⟩
/-- A world with new blocks, and another count of draws. -/
def ext (w : World) (x : Ex) : World := { w with heap := w.heap ++ x.obs, drawn := x.cnt }

theorem ext_block (w : World) (x : Ex) (i : Nat) (h : i < w.heap.size) : (ext w x).heap[i]? = w.heap[i]? := by
  show (w.heap ++ x.obs)[i]? = _
  rw [Array.getElem?_append, if_pos h]
@[go_sem] theorem ext_cell (w : World) (x : Ex) (b o : Nat) (h : b < w.heap.size) : (ext w x).cell? ⟨b, o, none⟩ = w.cell? ⟨b, o, none⟩ := World.cell?_of_block (ext_block w x b h)
@[go_sem] theorem ext_frozen (w : World) (x : Ex) (b o : Nat) (h : b < w.heap.size) : (ext w x).frozen? ⟨b, o, none⟩ = w.frozen? ⟨b, o, none⟩ := World.frozen?_of_block (ext_block w x b h)
theorem ext_below (w : World) (x : Ex) : Below w.heap.size w (ext w x) :=
  ⟨rfl, rfl, rfl, by show _ ≤ (w.heap ++ x.obs).size; simp, fun i hi => ext_block w x i hi⟩
theorem below_ext {w w' : World} (h : Below w.heap.size w w') : ∃ x, w' = ext w x := by
  refine ⟨⟨w'.heap.extract w.heap.size w'.heap.size, w'.drawn⟩, ?_⟩
  have e : w'.heap = w.heap ++ w'.heap.extract w.heap.size w'.heap.size := by
    apply Array.ext_getElem?
    intro i
    rw [Array.getElem?_append]
    by_cases hi : i < w.heap.size
    · rw [if_pos hi]; exact h.block i hi
    · rw [if_neg hi, Array.getElem?_extract]
      have := h.size
      by_cases hj : i < w'.heap.size
      · rw [if_pos (by omega), show w.heap.size + (i - w.heap.size) = i by omega]
      · rw [if_neg (by omega), Array.getElem?_eq_none (by omega)]
  obtain ⟨hp, tp, dr, os, out⟩ := w'
  obtain ⟨h1, h2, h3, h4, h5⟩ := h
  simp only at h1 h2 h3 e
  subst h1 h2 h3
  unfold ext
  simp only
  rw [← e]

theorem calls_ext {P : Program} {f : FuncId} {args : Array Value} {w : World} {x : Ex} {v : Value}
    (h : Calls P f args (ext w x) fun e w' => e = .returned v ∧ Below (ext w x).heap.size (ext w x) w') : Calls P f args (ext w x) fun e w'' => e = .returned v ∧ ∃ y, w'' = ext w y :=
  h.mono fun _ _ ⟨he, hb⟩ => ⟨he, below_ext ((ext_below w x).trans (hb.mono (ext_below w x).size))⟩
theorem calls_same {P : Program} {f : FuncId} {args : Array Value} {w : World} {x : Ex} {v : Value}
    (h : Calls P f args (ext w x) fun e w' => e = .returned v ∧ ext w x = w') : Calls P f args (ext w x) fun e w'' => e = .returned v ∧ ∃ y, w'' = ext w y :=
  h.mono fun _ _ ⟨he, hb⟩ => ⟨he, x, hb.symm⟩

/-- A region that draws its order, walked in the order of the text, in worlds that grow. -/
theorem region_ext {P : Program} {id : Nat} {Q : Exit → Act → World → Prop} {a : Act} {w : World} {l : List Oper} (hm : P.follows .mixedOrders = true) (hB : Region.lexB .any l.toArray = true)
    (h : wpQuiet P l.toArray (fun w' => ∃ x, w' = ext w x) (fun a' => ∀ w', Below w.heap.size w w' → Q .normal a' w') l a) : (Code.region id l.toArray true).wp P Q a w := by
  refine wp_region_quiet (C := fun w' => ∃ x, w' = ext w x) hm hB ?_ ?_
  · exact ⟨⟨#[], w.drawn + 1⟩, by unfold ext; simp⟩
  · have : (fun a' => ∀ w', Below w.heap.size w w' → Q .normal a' w') = (fun a' => ∀ w', (∃ x, w' = ext w x) → Q .normal a' w') := by
      funext a'
      apply propext
      exact ⟨fun hh w' ⟨x, hx⟩ => hh w' (hx ▸ ext_below w x), fun hh w' hb => hh w' (below_ext hb)⟩
    rw [this] at h
    simpa using h
end Go.Proofs.Ytmdgghdmfipllaa.Mm
