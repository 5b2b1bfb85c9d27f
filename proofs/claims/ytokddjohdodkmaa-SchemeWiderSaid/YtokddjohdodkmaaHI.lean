/- Walks: slices.Clone; words for schemes under construction. -/
import Derived.Test.YtokddjohdodkmaaHF
import Derived.Test.YtokddjohdodkmaaHH
import Derived.Test.YtokddjohdodkmaaTX
import Derived.WalkKit
import Derived.WalkSpells
import Derived.WalkLawsBesides
import Derived.Deep.QuietTactic
import Derived.BigQuiet
import Derived.Deep.Draws
import Derived.Deep.AppendLies
import Derived.Laws.OwnMore
import Derived.Laws.BytesArg
import Derived.Lib.Hide
import Derived.Deep.LoopGhost
import Derived.Deep.CutBlock
import Derived.Laws.MakeOwn
import Derived.RegionTactic
namespace Go.Proofs.Ytokddjohdodkmaa.Tm
open Go.RowKit Go.Proofs.Ytokddjohdodkmaa.Mw
open Go.Proofs.Ytokddjohdodkmaa.Mm (RC)
set_option linter.unusedVariables false
set_option linter.unusedSimpArgs false

theorem rdi_news {w : World} {a : Addr} {l : List Int} (h : RdI w .i64 (some a) l) : ∀ j u, (l.map (Value.int .i64))[j]? = some u → w.cell? (a.add j) = some u := fun j u hu => by
  have hj : j < l.length := by
    rcases Nat.lt_or_ge j l.length with h1 | h1
    · exact h1
    · rw [List.getElem?_eq_none (by simpa using h1)] at hu; cases hu
  obtain ⟨b, off, e, _, hc⟩ := h j hj
  cases e
  rw [List.getElem?_map, gi_lt l j hj] at hu
  cases hu
  have e1 : (⟨b, off, none⟩ : Addr).add j = ⟨b, off + j, none⟩ := by
    unfold Addr.add
    by_cases h : j = 0
    · subst h; rfl
    · simp [h]
  rw [e1]; exact hc
theorem ones_int (l : List Int) : ∀ u ∈ l.map (Value.int .i64), u.oneCell' = true := by
  intro u hu
  obtain ⟨n, _, rfl⟩ := List.mem_map.1 hu
  rfl
theorem own_frozen {w : World} {base : Nat} {e : TypeId} {size n m c : Nat} {A : Option Addr} {xs : List Value} (h : w.ownsRow base e size (.slice A m c) n xs) : ∀ a, A = some a → ∀ o, w.frozen? ⟨a.block, o, none⟩ = false := by
  rcases h.2 with ⟨h1, _⟩ | ⟨g', cap', cur, h1, _, h2, _⟩
  · cases h1; intro a ha; cases ha
  · cases h1
    intro a ha o
    cases ha
    simp [World.frozen?, h2]
theorem own_empty (w : World) (e : TypeId) (size : Nat) : (w.alloc (.cells #[] e)).ownsRow w.heap.size e size (.slice (some ⟨w.heap.size, 0, none⟩) 0 0) 0 [] :=
  ⟨by simp, .inr ⟨w.heap.size, 0, #[], rfl, Nat.le_refl _, heap_alloc_new w _, by omega, by simp [maxLen], by simp, by simp⟩⟩
theorem rdi_nil {w : World} {kd : IntKind} {l : List Int} (h : RdI w kd none l) : l = [] := by
  cases l with
  | nil => rfl
  | cons a l => obtain ⟨b, off, e, _⟩ := h 0 (by simp); cases e
/-- The ending is a slice of numbers in new memory, none of it frozen. -/
def RetN (l : List Int) (w : World) (e : Ending) (w' : World) : Prop := ∃ A c, e = .returned (.slice A l.length c) ∧ RdI w' .i64 A l ∧ (∀ a, A = some a → w.heap.size ≤ a.block ∧ a.block < w'.heap.size) ∧ (∀ a, A = some a → ∀ o, w'.frozen? ⟨a.block, o, none⟩ = false) ∧ Below w.heap.size w w'
set_option maxHeartbeats 1000000 in
theorem clone_any (l : List Int) (A : Option Addr) (c : Nat) (w : World) (hl : l.length ≤ 1000) (hr : RdI w .i64 A l) : Calls Try.prog 49 #[.slice A l.length c] w (RetN l w) := by
  have hnil : ∀ (W : World) (a : Option Addr) (n c n' c' : Nat), (binOp .eql 22 (.slice a n c) (.slice none n' c')).run Try.prog W = .ok (.bool a.isNone) W := fun W a n c n' c' => Lib.run_eql_slice_nil W 22 3 a n c n' c' Try.underlying22
  obtain ⟨i0, hi, hz0, hz1, hz2⟩ := info_parts infoInt
  rcases A with _ | a
  · obtain rfl := rdi_nil hr
    clear hr
    go_enter Try.func49, Try.ntmps49
    go_wp2_with fail
    go_ret
    exact ⟨none, 0, rfl, RdI.nil _ _ _, fun a ha => (by cases ha), fun a ha => (by cases ha), by (repeat (first | with_reducible exact Below.refl _ _ | with_reducible refine bl_drewN ?_ _ | with_reducible refine Below.drew ?_ | with_reducible refine bl_alloc ?_ _ | with_reducible refine Below.alloc ?_ (by first | omega | (simp; done) | (simp; omega)) _ | with_reducible refine Below.setCell ?_ (by first | omega | (simp; done) | (simp; omega)) _ | with_reducible assumption))⟩
  · have HN := Lib.hid (rdi_news (hr.alloc (.cells #[] 3)))
    clear hr
    go_enter Try.func49, Try.ntmps49
    go_wp2_with (at_builtin; refine wpList_append_own _ rfl (.tmp 5) (.tmp 6) 22 rfl w.heap.size 3 i0 (.int .i64 0) 1 8 Try.underlying22 hi hz0 hz1 hz2 rfl (by decide) (.slice (some ⟨w.heap.size, 0, none⟩) 0 0) 0 [] rfl (own_empty w 3 1) a l.length c (l.map (Value.int .i64)) rfl (by simp) HN.out (ones_int l) ?c3 ?c4 ?c5 ?_)
    case c3 => simp only [maxLen]; omega
    case c4 => omega
    case c5 => simp
    intro v2 w2 hown hg _
    have hb2 : Below w.heap.size w w2 := bl_gb (bl_alloc (Below.refl _ _) _) hg (Nat.le_refl _)
    have hown' : w2.ownsRow w.heap.size 3 1 v2 l.length (l.map (Value.int .i64)) := by simpa using hown
    obtain ⟨A2, c2, rfl, hr2, ha2⟩ := own_ints hown'
    have hf2 := own_frozen hown'
    clear hown hown' hg
    go_wp2_with fail
    go_ret
    exact ⟨A2, c2, rfl, hr2, ha2, hf2, hb2⟩
theorem infoSl : (Try.prog.info? 22).map (fun i => (i.zero, i.size, i.bytes)) = some (some (.slice none 0 0), 1, 24) := by kernel_rfl
theorem rdi_set {w : World} {b off : Nat} {l : List Int} (h : RdI w .i64 (some ⟨b, off, none⟩) l) (n : Nat) (hn : n < l.length) (v : Int) : RdI (w.setCell ⟨b, off + n, none⟩ (.int .i64 v)) .i64 (some ⟨b, off, none⟩) (l.set n v) := fun i hi => by
  have hi' : i < l.length := by simpa using hi
  obtain ⟨_, _, e, hlt, hc⟩ := h i hi'
  cases e
  obtain ⟨_, _, e, _, hcn⟩ := h n hn
  cases e
  refine ⟨b, off, rfl, by simpa [World.setCell] using hlt, ?_⟩
  by_cases hin : i = n
  · subst hin
    rw [World.cell?_setCell_same _ _ _ hcn]
    simp [gi, hi']
  · rw [World.cell?_setCell_other _ _ _ _ (fun e => hin (by have := congrArg Addr.off e; simp at this; omega)), hc]
    congr 2
    unfold gi
    rw [List.getD_eq_getElem?_getD, List.getD_eq_getElem?_getD, List.getElem?_set, if_neg (fun e => hin e.symm)]
theorem own_old {w w' : World} {b : Nat} {e : TypeId} {sz n : Nat} {v : Value} {xs : List Value} (h : w.ownsRow b e sz v n xs) (hb : Below w.heap.size w w') : w'.ownsRow b e sz v n xs :=
  h.kept (row := none) ⟨hb.os, hb.tape, hb.output, hb.size, fun i hi _ => hb.block i hi⟩ (Classical.em _)
/-- Keys under construction: field 0 of block g is a row of slices. -/
structure KI (w : World) (g : Nat) (u : Value) (vK : Value) (ks : List Ky) : Prop where
  bk : Bk w g 31 #[vK, u]
  own : w.ownsRow (g + 1) 22 1 vK ks.length (ks.map kv)
  rd : ∀ i, i < ks.length → RdI w .i64 (gk ks i).A (gk ks i).l
  ne : ∀ i, i < ks.length → ∀ a, (gk ks i).A = some a → g < a.block ∧ a.block < w.heap.size ∧ vK.ownBlock ≠ some a.block
section
variable {w w' : World} {g : Nat} {u vK : Value} {ks : List Ky}
theorem KI.old (h : KI w g u vK ks) (hb : Below w.heap.size w w') : KI w' g u vK ks :=
  ⟨h.bk.old hb, own_old h.own hb, fun i hi => (h.rd i hi).old hb, fun i hi a ha => by have := h.ne i hi a ha; have := hb.size; exact ⟨by omega, by omega, (h.ne i hi a ha).2.2⟩⟩
theorem KI.alloc (h : KI w g u vK ks) (o : Obj) : KI (w.alloc o) g u vK ks := h.old ((Below.refl _ _).alloc (Nat.le_refl _) o)
end
end Go.Proofs.Ytokddjohdodkmaa.Tm
