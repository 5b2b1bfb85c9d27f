/- Walks: digests of entries and of certificates. -/
import Derived.Test.YtdikoffppjoomaaGreatCL
import Derived.Test.YtdikoffppjoomaaGreatRH
import Derived.WalkKit
import Derived.WalkSpells
import Derived.WalkLawsBesides
import Derived.Deep.QuietTactic
import Derived.BigQuiet
import Derived.Deep.Draws
import Derived.Deep.AppendLies
import Derived.Laws.OwnMore
import Derived.Laws.BytesArg
import Derived.Lib.Hide
import Derived.Deep.LoopGhost
import Derived.Laws.MakeOwn
namespace Go.Proofs.YtdikoffppjoomaaGreat.Ct
open Go.RowKit Go.Proofs.YtdikoffppjoomaaGreat.Dg
open Go.Proofs.YtdikoffppjoomaaGreat.Mw (I64 ret_int ret_bool Bk bl_trans own_ints RdI RdR ge ge_lt gi ge_mem own_rows)
open Go.Proofs.YtdikoffppjoomaaGreat.Tr (RdD dl)
set_option linter.unusedVariables false
set_option linter.unusedSimpArgs false
set_option maxRecDepth 100000

/-- The cells of a list of digests. -/
def digs (l : List St) : Array Value := (l.flatMap dl).toArray
theorem dl4 (d : St) : (dl d).length = 4 := rfl
theorem flat_set : ∀ (l : List St) (k : Nat) (d : St), k < l.length → ((((l.flatMap dl).set (k * 4) (.int .u32 d.1)).set (k * 4 + 1) (.int .u32 d.2.1)).set (k * 4 + 2) (.int .u32 d.2.2.1)).set (k * 4 + 3) (.int .u32 d.2.2.2) = (l.set k d).flatMap dl
  | [], k, d, h => by simp at h
  | x :: l, 0, d, _ => by simp [dl]
  | x :: l, k + 1, d, h => by
    have ih := flat_set l k d (by simpa using h)
    rw [List.set_cons_succ, List.flatMap_cons, List.flatMap_cons, ← ih]
    have e' : ∀ j, (dl x).length + (k * 4 + j) - (dl x).length = k * 4 + j := fun j => by omega
    rw [show (k + 1) * 4 = (dl x).length + k * 4 by rw [dl4]; omega, Nat.add_assoc, Nat.add_assoc, Nat.add_assoc]
    rw [List.set_append_right _ _ (by omega), List.set_append_right _ _ (by omega), List.set_append_right _ _ (by omega), List.set_append_right _ _ (by omega), e' 1, e' 2, e' 3, Nat.add_sub_cancel_left]
theorem digs_set {w : World} {g : Nat} {T : TypeId} {l : List St} (h : Bk w g T (digs l)) {k : Nat} (hk : k < l.length) (d : St) : Bk ((((w.setCell ⟨g, k * 4, none⟩ (.int .u32 d.1)).setCell ⟨g, k * 4 + 1, none⟩ (.int .u32 d.2.1)).setCell ⟨g, k * 4 + 2, none⟩ (.int .u32 d.2.2.1)).setCell ⟨g, k * 4 + 3, none⟩ (.int .u32 d.2.2.2)) g T (digs (l.set k d)) := by
  have h1 := (((h.set (k * 4) (.int .u32 d.1)).set (k * 4 + 1) (.int .u32 d.2.1)).set (k * 4 + 2) (.int .u32 d.2.2.1)).set (k * 4 + 3) (.int .u32 d.2.2.2)
  have e : ((((digs l).setIfInBounds (k * 4) (.int .u32 d.1)).setIfInBounds (k * 4 + 1) (.int .u32 d.2.1)).setIfInBounds (k * 4 + 2) (.int .u32 d.2.2.1)).setIfInBounds (k * 4 + 3) (.int .u32 d.2.2.2) = digs (l.set k d) := by
    unfold digs
    rw [← flat_set l k d hk]
    simp
  rw [e] at h1
  exact h1
theorem flat_len4 (l : List St) : (l.flatMap dl).length = l.length * 4 := Mw.flat_len dl4 l
theorem digs_at {l : List St} {k : Nat} (hk : k < l.length) (j : Nat) (hj : j < 4) : (digs l)[k * 4 + j]? = (dl (ge l k))[j]? := by
  unfold digs
  rw [List.getElem?_toArray, Mw.flat_at dl4 l k j hk hj]
theorem digs_at0 {l : List St} {k : Nat} (hk : k < l.length) : (digs l)[k * 4]? = some (.int .u32 (ge l k).1) := digs_at hk 0 (by omega)
theorem digs_at1 {l : List St} {k : Nat} (hk : k < l.length) : (digs l)[k * 4 + 1]? = some (.int .u32 (ge l k).2.1) := digs_at hk 1 (by omega)
theorem digs_at2 {l : List St} {k : Nat} (hk : k < l.length) : (digs l)[k * 4 + 2]? = some (.int .u32 (ge l k).2.2.1) := digs_at hk 2 (by omega)
theorem digs_at3 {l : List St} {k : Nat} (hk : k < l.length) : (digs l)[k * 4 + 3]? = some (.int .u32 (ge l k).2.2.2) := digs_at hk 3 (by omega)
theorem digs_fill {α : Type} [Inhabited α] {f : α → St} {l : List α} {k : Nat} {z : St} (ht : (l.take (k + 1)).map f = (l.take k).map f ++ [f (ge l k)]) (hk : k < l.length) (hh : ((l.take k).map f).length = k) : ((l.take k).map f ++ List.replicate (l.length - k) z).set k (f (ge l k)) = (l.take (k + 1)).map f ++ List.replicate (l.length - (k + 1)) z := by
  rw [ht, List.set_append_right _ _ (by rw [hh]; exact Nat.le_refl _), hh, Nat.sub_self, show l.length - k = (l.length - (k + 1)) + 1 by omega, List.replicate_succ, List.set_cons_zero, List.append_assoc]
  rfl
theorem make_digs (n : Nat) (hn : n ≤ 1000) (W : World) : ∃ w2, (Instr.makeSlice 47 (.int .i64 (n : Int)) (.int .i64 (n : Int))).run Tryz.prog W = .ok (.slice (some ⟨W.heap.size, 0, none⟩) n n) w2 ∧ Below W.heap.size W w2 ∧ Bk w2 W.heap.size 35 (digs (List.replicate n (0, 0, 0, 0))) := by
  obtain ⟨i0, hi, hz0, hz1, hz2⟩ := info_parts Tr.infoDig
  have := run_make (P := Tryz.prog) W 47 35 i0 (dv (0, 0, 0, 0)) Tryz.underlying47 hi hz0 .i64 .i64 (n : Int) (n : Int) (by omega) (Int.le_refl _) (by rw [hz2]; omega) (by omega)
  rw [hz1, Int.toNat_natCast] at this
  have e : madeCells (dv (0, 0, 0, 0)).cells (n * 4) = digs (List.replicate n (0, 0, 0, 0)) := by
    refine Array.ext_getElem? fun i => ?_
    by_cases h : i < n * 4
    · have h1 : i / 4 < (List.replicate n ((0, 0, 0, 0) : St)).length := by simp; omega
      have h2 := digs_at h1 (i % 4) (Nat.mod_lt _ (by omega))
      rw [show i / 4 * 4 + i % 4 = i by omega] at h2
      rw [h2]
      have h3 : ge (List.replicate n ((0, 0, 0, 0) : St)) (i / 4) = (0, 0, 0, 0) := by
        have := Mw.ge_mem (List.replicate n ((0, 0, 0, 0) : St)) (i / 4) h1
        exact List.eq_of_mem_replicate this
      rw [h3]
      have h4 : i % 4 = 0 ∨ i % 4 = 1 ∨ i % 4 = 2 ∨ i % 4 = 3 := by omega
      unfold madeCells
      rw [Array.getElem?_map, Array.getElem?_range, if_pos h]
      rcases h4 with h4 | h4 | h4 | h4 <;> simp [h4, Value.cells, dl]
    · rw [Array.getElem?_eq_none (by simp [madeCells]; omega), Array.getElem?_eq_none (by unfold digs; simp only [List.size_toArray, flat_len4, List.length_replicate]; omega)]
  rw [e] at this
  exact ⟨_, this, Mw.bl_alloc (Below.refl _ _) _, Mw.Bk.new' rfl⟩
/-- The ending is a list of digests. -/
def DE (l : List St) (w : World) (e : Ending) (w' : World) : Prop := ∃ A c, e = .returned (.slice A l.length c) ∧ l.length ≤ c ∧ c ≤ maxLen ∧ RdD w' A l ∧ Below w.heap.size w w'
theorem bl_store4 {a w : World} (h : Below a.heap.size a w) (g : Nat) (hg : a.heap.size ≤ g) (o : Nat) (d : St) : Below a.heap.size a ((((w.setCell ⟨g, o, none⟩ (.int .u32 d.1)).setCell ⟨g, o + 1, none⟩ (.int .u32 d.2.1)).setCell ⟨g, o + 2, none⟩ (.int .u32 d.2.2.1)).setCell ⟨g, o + 3, none⟩ (.int .u32 d.2.2.2)) :=
  (((h.setCell hg _).setCell hg _).setCell hg _).setCell hg _
set_option maxHeartbeats 1000000 in
theorem digestsL_any (l : List Le) (A : Option Addr) (c : Nat) (w : World) (hl : l.length ≤ 1000) (hr : RdL w A l) : Calls Tryz.prog 50 #[.slice A l.length c, .func (.func 31) #[] #[]] w (DE (l.map dgE) w) := by
  obtain ⟨w2, hmk, hb2, hB2⟩ := make_digs l.length hl w
  have HR := Lib.hid hr
  clear hr
  go_enter Tryz.func50, Tryz.ntmps50
  go_wp2_with fail
  clear hmk
  go_loopw [13] (fun i wr => ∃ k : Nat, k ≤ l.length ∧ i = .int .i64 k ∧ Bk wr w.heap.size 35 (digs ((l.take k).map dgE ++ List.replicate (l.length - k) (0, 0, 0, 0))) ∧ Below w.heap.size w wr) (fun i _ => l.length - (RowKit.intOf i).toNat)
  case atStart => exact ⟨0, by omega, rfl, hB2, hb2⟩
  case round =>
    clear hb2 hB2
    obtain ⟨k, hk, rfl, hB, hb⟩ := hrel
    have hz := hB.lt
    by_cases hlt : k < l.length
    · obtain ⟨b, off, rfl, hbl, c0, c1, c2, c3, c4, c5⟩ := le_at (HR.out.old hb) k hlt
      have HE := Lib.hid (entry_any (ge l k))
      have HT := Lib.hid (take_map_succ dgE l k hlt)
      have hkn : k < ((l.take k).map dgE ++ List.replicate (l.length - k) ((0, 0, 0, 0) : St)).length := by simp; omega
      have HB := Lib.hid hB
      have hlt' : (k : Int) < l.length := by omega
      clear hB
      go_wp2_with fail
      refine (HE.out _).mono ?_
      rintro e w3 ⟨rfl, hb3⟩
      have hB3 : Bk w3 w.heap.size 35 _ := (HB.out.alloc (.cells #[.int .i64 (ge l k).k, .int .i64 (ge l k).f.i, .int .i64 (ge l k).f.c, .int .i64 (ge l k).f.g, .int .i64 (ge l k).f.t, .int .i64 (ge l k).f.r] 54)).old hb3
      have hb4 : Below w.heap.size w w3 := bl_trans (Mw.bl_alloc hb _) hb3
      have hz3 := hB3.lt
      have zf := fun o => hB3.frozen o
      have e0 := hB3.cell (k * 4)
      have e1 := hB3.cell (k * 4 + 1)
      have e2 := hB3.cell (k * 4 + 2)
      have e3 := hB3.cell (k * 4 + 3)
      rw [digs_at0 hkn] at e0
      rw [digs_at1 hkn] at e1
      rw [digs_at2 hkn] at e2
      rw [digs_at3 hkn] at e3
      have hB4 := digs_set hB3 hkn (dgE (ge l k))
      rw [digs_fill HT.out hlt (by simp; omega)] at hB4
      have HB4 := Lib.hid hB4
      have hb5 := bl_store4 hb4 (w.heap.size) (Nat.le_refl _) (k * 4) (dgE (ge l k))
      clear hB3 hB4 hb3 hb hbl c0 c1 c2 c3 c4 c5 hkn hz
      go_wp2_with fail
      go_roundw
      case rel => exact ⟨k + 1, by omega, by go_num, HB4.out, hb5⟩
      case measure => simp [RowKit.intOf]; omega
    · have hkl : k = l.length := by omega
      have HB : Hid (Bk wr w.heap.size 35 (digs (l.map dgE))) := by unfold Hid; rw [hkl, List.take_length, Nat.sub_self, List.replicate_zero, List.append_nil] at hB; exact hB
      clear hkl hB
      go_wp2_with fail
      go_ret
      exact ⟨some ⟨w.heap.size, 0, none⟩, l.length, by rw [List.length_map] <;> rfl, by rw [List.length_map]; exact Nat.le_refl _, by simp only [maxLen]; omega, Tr.RdD.bk HB.out rfl, hb⟩
set_option maxHeartbeats 1000000 in
theorem digestsC_any (l : List Cf) (A : Option Addr) (c : Nat) (w : World) (hl : l.length ≤ 1000) (hr : RdC w A l) : Calls Tryz.prog 51 #[.slice A l.length c, .func (.func 21) #[] #[]] w (DE (l.map dgC) w) := by
  obtain ⟨w2, hmk, hb2, hB2⟩ := make_digs l.length hl w
  have HR := Lib.hid hr
  clear hr
  go_enter Tryz.func51, Tryz.ntmps51
  go_wp2_with fail
  clear hmk
  go_loopw [13] (fun i wr => ∃ k : Nat, k ≤ l.length ∧ i = .int .i64 k ∧ Bk wr w.heap.size 35 (digs ((l.take k).map dgC ++ List.replicate (l.length - k) (0, 0, 0, 0))) ∧ Below w.heap.size w wr) (fun i _ => l.length - (RowKit.intOf i).toNat)
  case atStart => exact ⟨0, by omega, rfl, hB2, hb2⟩
  case round =>
    clear hb2 hB2
    obtain ⟨k, hk, rfl, hB, hb⟩ := hrel
    have hz := hB.lt
    by_cases hlt : k < l.length
    · obtain ⟨b, off, rfl, hbl, c0, c1, c2, c3, c4⟩ := cf_at (HR.out.old hb) k hlt
      have HE := Lib.hid (digest_any (ge l k))
      have HT := Lib.hid (take_map_succ dgC l k hlt)
      have hkn : k < ((l.take k).map dgC ++ List.replicate (l.length - k) ((0, 0, 0, 0) : St)).length := by simp; omega
      have HB := Lib.hid hB
      have hlt' : (k : Int) < l.length := by omega
      clear hB
      go_wp2_with fail
      refine (HE.out _).mono ?_
      rintro e w3 ⟨rfl, hb3⟩
      have hB3 : Bk w3 w.heap.size 35 _ := (HB.out.alloc (.cells #[.int .i64 (ge l k).i, .int .i64 (ge l k).c, .int .i64 (ge l k).g, .int .i64 (ge l k).t, .int .i64 (ge l k).r] 46)).old hb3
      have hb4 : Below w.heap.size w w3 := bl_trans (Mw.bl_alloc hb _) hb3
      have hz3 := hB3.lt
      have zf := fun o => hB3.frozen o
      have e0 := hB3.cell (k * 4)
      have e1 := hB3.cell (k * 4 + 1)
      have e2 := hB3.cell (k * 4 + 2)
      have e3 := hB3.cell (k * 4 + 3)
      rw [digs_at0 hkn] at e0
      rw [digs_at1 hkn] at e1
      rw [digs_at2 hkn] at e2
      rw [digs_at3 hkn] at e3
      have hB4 := digs_set hB3 hkn (dgC (ge l k))
      rw [digs_fill HT.out hlt (by simp; omega)] at hB4
      have HB4 := Lib.hid hB4
      have hb5 := bl_store4 hb4 (w.heap.size) (Nat.le_refl _) (k * 4) (dgC (ge l k))
      clear hB3 hB4 hb3 hb hbl c0 c1 c2 c3 c4 hkn hz
      go_wp2_with fail
      go_roundw
      case rel => exact ⟨k + 1, by omega, by go_num, HB4.out, hb5⟩
      case measure => simp [RowKit.intOf]; omega
    · have hkl : k = l.length := by omega
      have HB : Hid (Bk wr w.heap.size 35 (digs (l.map dgC))) := by unfold Hid; rw [hkl, List.take_length, Nat.sub_self, List.replicate_zero, List.append_nil] at hB; exact hB
      clear hkl hB
      go_wp2_with fail
      go_ret
      exact ⟨some ⟨w.heap.size, 0, none⟩, l.length, by rw [List.length_map] <;> rfl, by rw [List.length_map]; exact Nat.le_refl _, by simp only [maxLen]; omega, Tr.RdD.bk HB.out rfl, hb⟩
end Go.Proofs.YtdikoffppjoomaaGreat.Ct
