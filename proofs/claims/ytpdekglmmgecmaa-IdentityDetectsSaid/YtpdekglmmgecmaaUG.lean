/- Walks: sorting texts; inserting a text into an ascending list. -/
import Derived.Test.YtpdekglmmgecmaaUF
import Derived.Test.YtpdekglmmgecmaaSrt
import Derived.Test.YtpdekglmmgecmaaAR
import Derived.WalkKit
import Derived.WalkSpells
import Derived.WalkLawsBesides
import Derived.Deep.QuietTactic
import Derived.BigQuiet
import Derived.Deep.Draws
import Derived.Deep.AppendLies
import Derived.Laws.OwnMore
import Derived.Laws.BytesArg
import Derived.Lib.Hide
import Derived.Deep.LoopGhost
import Derived.Deep.CutBlock
import Derived.WalkLawsBesides
namespace Go.Proofs.Ytpdekglmmgecmaa.Id
open Go.RowKit
open Go.Proofs.Ytpdekglmmgecmaa.Mw (Bk RdE gb_of own_old own_enc own_frozen one_new gb_set gb_refl ge ge_lt wpList_append_run)
set_option linter.unusedSimpArgs false
set_option linter.unusedVariables false
set_option linter.unusedSimpArgs false

/-- A value is a slice of texts that reads as a list: nil, or one with room for all of it. -/
def Sl (w : World) (v : Value) (l : List ByteArray) : Prop := (v = .slice none 0 0 ∧ l = []) ∨ ∃ b off c, v = .slice (some ⟨b, off, none⟩) l.length c ∧ l.length ≤ c ∧ c ≤ maxLen ∧ b < w.heap.size ∧ RdE Value.string w (some ⟨b, off, none⟩) l
theorem Sl.nil (w : World) : Sl w (.slice none 0 0) [] := .inl ⟨rfl, rfl⟩
theorem Sl.old {w w' : World} {v : Value} {l : List ByteArray} (h : Sl w v l) (hb : Below w.heap.size w w') : Sl w' v l := by
  rcases h with h | ⟨b, off, c, h1, h2, h5, h3, h4⟩
  · exact .inl h
  · exact .inr ⟨b, off, c, h1, h2, h5, Nat.lt_of_lt_of_le h3 hb.size, h4.old hb⟩
theorem Sl.own {w : World} {base : Nat} {v : Value} {n : Nat} {l : List ByteArray} (h : w.ownsRow base 9 1 v n (l.map Value.string)) : Sl w v l := by
  have hn : n = l.length := by have := h.1; simpa using this.symm
  subst hn
  have h0 := h
  rcases h.2 with ⟨rfl, h1⟩ | ⟨g, cap, cur, rfl, hg, hh, hc, hm, _⟩
  · exact .inl ⟨rfl, List.length_eq_zero_iff.1 h1⟩
  · exact .inr ⟨g, 0, cap, rfl, hc, hm, (h0.lt g rfl).2, RdE.own h0⟩
/-- Appending a slice of texts, nil or not, to a row of the call's own. -/
theorem app_run {w : World} {base : Nat} {v : Value} {xs l : List ByteArray} {A : Option Addr} {c : Nat} (hown : w.ownsRow base 9 1 v xs.length (xs.map Value.string)) (hr : RdE Value.string w A l) (h1 : xs.length + l.length ≤ 100000) (hb : base ≤ w.heap.size) :
    ∃ v' w', (Builtin.append_ #[40, 40] 40 #[v, .slice A l.length c]).run Try.prog w = .ok v' w' ∧ w'.ownsRow base 9 1 v' (xs ++ l).length ((xs ++ l).map Value.string) ∧ w.grownBy w' v.ownBlock := by
  obtain ⟨i0, hi0, hz0, hz1, hz2⟩ := info_parts infoStr
  rcases A with _ | a
  · obtain rfl := Mw.rde_nil hr
    refine ⟨v, w, ?_, by simpa using hown, gb_refl _ _⟩
    rcases hown.2 with ⟨rfl, h0⟩ | ⟨g, cap, cur, rfl, hg, hh, hc, hm, _⟩
    · simp [Builtin.append_, run_underlying Try.underlying40, sizeOf, typeInfo, hi0, Builtin.lenOf, Builtin.firstCells]
    · simp [Builtin.append_, run_underlying Try.underlying40, sizeOf, typeInfo, hi0, Builtin.lenOf, Builtin.firstCells, hc, storeCells]
  · obtain ⟨v', w', h2, h3, h4, -, -⟩ := run_append_own_at (P := Try.prog) (w := w) base 40 40 9 i0 (.string ⟨#[]⟩) 1 16 Try.underlying40 hi0 hz0 hz1 hz2 rfl (by decide) v xs.length (xs.map Value.string) hown a l.length c (l.map Value.string) (by simp) (Mw.rde_news hr) (Mw.enc_one l (fun a => by simp [Value.oneCell'])) (by simp only [maxLen]; omega) (by omega) hb
    exact ⟨v', w', h2, by rw [List.map_append, List.length_append]; exact h3, h4⟩
open Go.Sort in
theorem sorted_world (w : World) (n g off : Nat) (d0 d : Array (List UInt8)) (os : Array Obj) (h0 : Holds encStr w g off d0) (hs : d.size = d0.size) (hg : g < w.heap.size) :
    w.grownBy (grow (putRow encStr (Go.Sort.ahead w n) g off d) os) (some g) ∧ ∀ j, j < d.size → (grow (putRow encStr (Go.Sort.ahead w n) g off d) os).cell? ⟨g, off + j, none⟩ = some (encStr d[j]!) := by
  have hz : (putRow encStr (Go.Sort.ahead w n) g off d).heap.size = w.heap.size := by rw [size_putRow]; rfl
  have hb : ∀ i, i < w.heap.size → (grow (putRow encStr (Go.Sort.ahead w n) g off d) os).heap[i]? = (putRow encStr (Go.Sort.ahead w n) g off d).heap[i]? := fun i hi => by
    show ((putRow encStr (Go.Sort.ahead w n) g off d).heap ++ os)[i]? = _
    rw [Array.getElem?_append, if_pos (by omega)]
  refine ⟨⟨rfl, rfl, rfl, ?_, fun i hi hne => ?_⟩, fun j hj => ?_⟩
  · show _ ≤ ((putRow encStr (Go.Sort.ahead w n) g off d).heap ++ os).size
    rw [Array.size_append]; omega
  · rw [hb i hi]
    unfold putRow mapBlock
    show (w.heap.modify g _)[i]? = _
    rw [Array.getElem?_modify, if_neg (fun e => hne (by rw [e]))]
  · rw [World.cell?_of_block (a := ⟨g, off + j, none⟩) (hb g hg)]
    exact cell?_putRow encStr (Go.Sort.ahead w n) g off d0 d h0 hs j hj
theorem tl_enc (s : ByteArray) : Go.Proofs.encStr (tl s) = .string s := congrArg Value.string (ba_ext (tl_mk _))
theorem getM (l : List (List UInt8)) (j : Nat) (x : List UInt8) (h : l[j]? = some x) : l.toArray[j]! = x := by
  rw [getElem!_def, List.getElem?_toArray, h]
theorem sort_any (l : List ByteArray) (g off c : Nat) (w : World) (hr : RdE Value.string w (some ⟨g, off, none⟩) l) (hf : ∀ o, w.frozen? ⟨g, o, none⟩ = false) (hg : g < w.heap.size) (hl : l.length ≤ 100000) :
    Calls Try.prog 38 #[.slice (some ⟨g, off, none⟩) l.length c] w fun e w' => e = .returned (.tuple #[]) ∧ RdE Value.string w' (some ⟨g, off, none⟩) (srt l) ∧ w.grownBy w' (some g) := by
  have hH : Go.Sort.Holds Go.Proofs.encStr w g off (l.map tl).toArray := fun j hj => by
    have hj' : j < l.length := by simpa using hj
    obtain ⟨_, _, e, _, hc⟩ := hr j hj'
    cases e
    rw [hc, getM (l.map tl) j (tl (ge l j)) (by rw [List.getElem?_map, ge_lt l j hj']; rfl), tl_enc]
    exact ⟨rfl, hf _⟩
  have h := Try.slices_Sort_string g off c (l.map tl) w hH hg (by simp; omega)
  rw [List.length_map] at h
  refine h.mono ?_
  rintro e w' ⟨rfl, n, os, rfl⟩
  have hsz : ((l.map tl).mergeSort fun x y => decide (x ≤ y)).toArray.size = (l.map tl).toArray.size := by simp
  obtain ⟨h1, h2⟩ := sorted_world w n g off _ ((l.map tl).mergeSort fun x y => decide (x ≤ y)).toArray os hH hsz hg
  refine ⟨rfl, fun j hj => ?_, h1⟩
  refine ⟨g, off, rfl, Nat.lt_of_lt_of_le hg h1.size, ?_⟩
  have hj' : j < ((l.map tl).mergeSort fun x y => decide (x ≤ y)).toArray.size := by rw [srt_len] at hj; simpa using hj
  rw [h2 j hj', getM _ j (tl (ge (srt l) j)) (by rw [← map_tl_srt, List.getElem?_map, ge_lt (srt l) j hj]; rfl), tl_enc]
theorem sort_nil (c : Nat) (w : World) : Calls Try.prog 38 #[.slice none 0 c] w fun e w' => e = .returned (.tuple #[]) ∧ w = w' :=
  (Try.slices_Sort_string_none none c w).mono fun _ _ ⟨h1, h2⟩ => ⟨h1, h2.symm⟩

theorem ins_at : ∀ (l : List ByteArray) (s : ByteArray) (k : Nat), k ≤ l.length → (∀ j, j < k → tl (ge l j) < tl s) → (k < l.length → ¬ tl (ge l k) < tl s) → ins l s = if k < l.length ∧ ge l k = s then l else l.take k ++ [s] ++ l.drop k
  | [], s, k, hk, _, _ => by
    have : k = 0 := by simpa using hk
    subst this
    simp [ins]
  | x :: l, s, 0, _, _, h => by
    have h0 : ¬ tl x < tl s := h (by simp)
    unfold ins
    rw [if_neg h0]
    by_cases e : x = s
    · rw [if_pos e, if_pos ⟨by simp, e⟩]
    · rw [if_neg e, if_neg (fun y => e y.2)]; rfl
  | x :: l, s, k + 1, hk, h1, h2 => by
    have h0 : tl x < tl s := h1 0 (by omega)
    have ih := ins_at l s k (by simpa using hk) (fun j hj => h1 (j + 1) (by omega)) (fun hj => h2 (by simpa using hj))
    unfold ins
    rw [if_pos h0, ih]
    have e : ge (x :: l) (k + 1) = ge l k := rfl
    rw [e]
    by_cases hc : k < l.length ∧ ge l k = s
    · rw [if_pos hc, if_pos ⟨by simpa using hc.1, hc.2⟩]
    · rw [if_neg hc, if_neg (fun y => hc ⟨by simpa using y.1, y.2⟩)]; rfl
end Go.Proofs.Ytpdekglmmgecmaa.Id
