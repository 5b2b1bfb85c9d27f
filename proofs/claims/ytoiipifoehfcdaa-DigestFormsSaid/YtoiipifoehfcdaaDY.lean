/- Walks: Bytes of the program and of the reference. -/
import Derived.Test.YtoiipifoehfcdaaDN
import Derived.Test.YtoiipifoehfcdaaMW
import Derived.WalkKit
import Derived.WalkSpells
import Derived.WalkLawsBesides
import Derived.Deep.QuietTactic
import Derived.BigQuiet
import Derived.Deep.Draws
import Derived.Deep.AppendLies
import Derived.Laws.OwnMore
import Derived.Laws.BytesArg
import Derived.Lib.Hide
import Derived.Deep.LoopGhost
import Derived.OwnWalk
import Derived.RegionTactic
import Derived.Laws.MakeOwn
namespace Go.Proofs.Ytoiipifoehfcdaa.Dg
open Go.RowKit
set_option linter.unusedVariables false

/-- A row of words. -/
def rowA (f : Nat → Int) (c : Nat) : Array Value := ((List.range c).map fun j => Value.int .u32 (f j)).toArray
theorem rowA_size (f : Nat → Int) (c : Nat) : (rowA f c).size = c := by simp [rowA]
theorem rowA_at (f : Nat → Int) (c j : Nat) (h : j < c) : (rowA f c)[j]? = some (.int .u32 (f j)) := by
  unfold rowA
  rw [List.getElem?_toArray, List.getElem?_map, List.getElem?_range h]
  rfl
theorem rowA_set (f : Nat → Int) (c j : Nat) (v : Int) : (rowA f c).setIfInBounds j (.int .u32 v) = rowA (fun i => if i = j then v else f i) c := by
  apply Array.ext_getElem?
  intro i
  rw [Array.getElem?_setIfInBounds]
  by_cases hi : i < c
  · rw [rowA_at _ _ _ hi, rowA_at _ _ _ hi, rowA_size]
    by_cases e : j = i
    · subst e; simp [hi]
    · rw [if_neg e, if_neg (fun h => e h.symm)]
  · have e1 : (rowA f c)[i]? = none := Array.getElem?_eq_none (by rw [rowA_size]; omega)
    have e2 : (rowA (fun i => if i = j then v else f i) c)[i]? = none := Array.getElem?_eq_none (by rw [rowA_size]; omega)
    rw [e1, e2, rowA_size]
    split
    · rw [if_neg (by omega)]
    · rfl
theorem rowA_congr (f g : Nat → Int) (c : Nat) (h : ∀ j, j < c → f j = g j) : rowA f c = rowA g c := by
  unfold rowA
  congr 1
  exact List.map_congr_left fun j hj => by rw [h j (List.mem_range.1 hj)]
/-- Word number j after k bytes. -/
def bw (s : ByteArray) : Nat → Nat → Int
  | 0, _ => 0
  | k + 1, j => if j = k / 4 then bits .or .u32 (bw s k (k / 4)) (byt s k * 2 ^ (k % 4 * 8) % 4294967296) else bw s k j
/-- The words of a text. -/
def bwl (s : ByteArray) (n : Nat) : List Int := (List.range n).map (bw s s.size) ++ [(s.size : Int)]
theorem made_row (c : Nat) : madeCells (Value.cells (.int .u32 0)) (c * 1) = rowA (fun _ => 0) c := by
  apply Array.ext_getElem?
  intro j
  rw [Nat.mul_one]
  by_cases hj : j < c
  · rw [rowA_at _ _ _ hj]
    unfold madeCells
    rw [Array.getElem?_map, Array.getElem?_range, if_pos hj]
    simp [Value.cells, Nat.mod_one]
  · rw [Array.getElem?_eq_none (by rw [size_madeCells]; omega), Array.getElem?_eq_none (by rw [rowA_size]; omega)]
theorem mk_row (n c : Nat) (a b : Int) (ha : a = n) (hb : b = c) (hnc : n ≤ c) (hc : c ≤ 1000000) (W : World) :
    (Instr.makeSlice 34 (.int .i64 a) (.int .i64 b)).run Try.prog W = .ok (.slice (some ⟨W.heap.size, 0, none⟩) n c) (W.alloc (.cells (rowA (fun _ => 0) c) 22)) := by
  subst ha hb
  obtain ⟨i0, hi, hz0, hz1, hz2⟩ := info_parts info32
  have hr := run_make (P := Try.prog) W 34 22 i0 (.int .u32 0) Try.underlying34 hi hz0 .i64 .i64 n c (by omega) (by omega) (by rw [hz2]; omega) (by omega)
  simp only [Int.toNat_natCast] at hr
  rw [hz1, made_row] at hr
  exact hr

theorem bw_step (s : ByteArray) (k c : Nat) (x : Int) (h : byt s k = x) (e : Nat) (he : e = k % 4 * 8) :
    (rowA (bw s k) c).setIfInBounds (k / 4) (.int .u32 (bits .or .u32 (bw s k (k / 4)) (x * 2 ^ e % 4294967296))) = rowA (bw s (k + 1)) c := by
  subst h he
  rw [rowA_set]
  exact rowA_congr _ _ _ fun j _ => rfl
theorem bk_own {w : World} {g base : Nat} {f : Nat → Int} {n c : Nat} {T : TypeId} (h : Mw.Bk w g T (rowA f c)) (hn : n ≤ c) (hc : c ≤ maxLen) (hb : base ≤ g) :
    w.ownsRow base T 1 (.slice (some ⟨g, 0, none⟩) n c) n (((List.range n).map f).map (Value.int .u32)) := by
  refine ⟨by simp, .inr ⟨g, c, _, rfl, hb, h, hn, hc, by rw [rowA_size]; omega, ?_⟩⟩
  unfold rowA
  rw [Nat.mul_one, List.map_map, ← List.map_take, List.take_range, Nat.min_eq_left hn]
  rfl
theorem blk4_set {w : World} {g g' : Nat} {o : Nat} {v : Value} {s : St} (h : Blk4 w g s) (hne : g' ≠ g) : Blk4 (w.setCell ⟨g', o, none⟩ v) g s := h.far hne v
theorem blk4_block {w w' : World} {g : Nat} {s : St} (h : Blk4 w g s) (hb : w'.heap[g]? = w.heap[g]?) : Blk4 w' g s := by
  obtain ⟨c0, c1, c2, c3, f0, f1, f2, f3⟩ := h
  have hc' : ∀ o, w'.cell? ⟨g, o, none⟩ = w.cell? ⟨g, o, none⟩ := fun o => World.cell?_of_block (a := ⟨g, o, none⟩) hb
  have hf' : ∀ o, w'.frozen? ⟨g, o, none⟩ = w.frozen? ⟨g, o, none⟩ := fun o => World.frozen?_of_block (a := ⟨g, o, none⟩) hb
  unfold Blk4
  simp only [hc', hf']
  exact ⟨c0, c1, c2, c3, f0, f1, f2, f3⟩
set_option maxHeartbeats 1000000 in
theorem rbytes_any (tag : Int) (s : ByteArray) (w : World) (hl : s.size < 1000000) :
    Calls Try.prog 19 #[.int .u32 tag, .string s] w fun e w' => e = .returned (dv (words tag (bwl s ((s.size + 3) / 4)))) ∧ Below w.heap.size w w' := by
  obtain ⟨i0, hi, hz0, hz1, hz2⟩ := info_parts info32
  have hmk := mk_row ((s.size + 3) / 4) ((s.size + 3) / 4) (((s.size : Int) + 3) / 4) (((s.size : Int) + 3) / 4) (by omega) (by omega) (by omega) (by omega)
  go_enter Try.func19, Try.ntmps19
  go_wp2_with fail
  go_loopw [6] (fun j wr => ∃ k : Nat, k ≤ s.size ∧ j = .int .i64 k ∧ Mw.Bk wr (w.heap.size + 1) 22 (rowA (bw s k) ((s.size + 3) / 4)) ∧ Blk4 wr w.heap.size (0, 0, 0, 0) ∧ Below w.heap.size w wr) (fun j _ => s.size - (intOf j).toNat)
  case atStart => exact ⟨0, by omega, rfl, Mw.Bk.new' (by simp), by unfold Blk4; go_simp, by (repeat (first | with_reducible exact Below.refl _ _ | with_reducible refine bl_drewN ?_ _ | with_reducible refine Below.drew ?_ | with_reducible refine bl_alloc ?_ _ | with_reducible refine Below.alloc ?_ (by first | omega | (simp; done) | (simp; omega)) _ | with_reducible refine Below.setCell ?_ (by first | omega | (simp; done) | (simp; omega)) _ | with_reducible assumption))⟩
  case round =>
    obtain ⟨k, hk, rfl, hB, hZ, hb⟩ := hrel
    have hz := hB.lt
    clear hmk
    by_cases hlt : k < s.size
    · have Hby := Lib.hid (byt_at s k hlt)
      have hc0 : (0 : Int) ≤ ↑s[k].toNat := by omega
      have hc1 : (↑s[k].toNat : Int) ≤ 255 := by have := s[k].toNat_lt; omega
      have hcell : wr.cell? ⟨w.heap.size + 1, k / 4, none⟩ = some (.int .u32 (bw s k (k / 4))) := (hB.cell _).trans (rowA_at _ _ _ (by omega))
      have hfz := hB.frozen (k / 4)
      have q1 : (0 : Int) ≤ k := by omega
      have q2 : (k : Int) < s.size := by omega
      have q3 : (k : Int) / 4 < ((s.size : Int) + 3) / 4 := by omega
      have q4 : (0 : Int) ≤ (k : Int) / 4 := by omega
      have q5 : (0 : Int) ≤ (k : Int) % 4 ∧ (k : Int) % 4 < 4 := by omega
      go_wp2_with fail
      go_region
      go_wp2_with fail
      go_roundw
      case rel =>
        refine ⟨k + 1, by omega, by go_num, ?_, ?_, ?_⟩
        · have := hB.set (k / 4) (.int .u32 (bits .or .u32 (bw s k (k / 4)) (↑s[k].toNat * 2 ^ (k % 4 * 8) % 4294967296)))
          rw [bw_step s k _ _ Hby.out _ rfl] at this
          first | exact this | (rw [Nat.mul_comm]; exact this)
        · exact blk4_set hZ (by omega)
        · (repeat (first | with_reducible exact Below.refl _ _ | with_reducible refine bl_drewN ?_ _ | with_reducible refine Below.drew ?_ | with_reducible refine bl_alloc ?_ _ | with_reducible refine Below.alloc ?_ (by first | omega | (simp; done) | (simp; omega)) _ | with_reducible refine Below.setCell ?_ (by first | omega | (simp; done) | (simp; omega)) _ | with_reducible assumption))
      case measure => simp [intOf]; omega
    · obtain rfl : k = s.size := by omega
      have hown := bk_own (n := (s.size + 3) / 4) (base := w.heap.size + 1) hB (by omega) (by simp only [maxLen]; omega) (Nat.le_refl _)
      go_wp2_with (at_builtin; refine wpList_append_own _ rfl _ _ 34 rfl (w.heap.size + 1) 22 i0 (.int .u32 0) 1 4 Try.underlying34 hi hz0 hz1 hz2 rfl (by decide) _ _ _ rfl (hown.alloc _) ⟨wr.heap.size, 0, none⟩ 1 1 [_] rfl rfl (cell_one_new _ _ _) ?c2 ?c3 ?c4 ?c5 ?_)
      case c2 => simp [Value.oneCell']
      case c3 => simp only [maxLen]; omega
      case c4 => omega
      case c5 => simp; omega
      intro v' w1 hown' hgrow _
      have hb1 : Below w.heap.size w w1 := (hb.alloc hb.size _).grown hgrow (by have := hb.size; simp; omega) (fun j hj => by have := (hown.lt j hj).1; omega)
      have hZ1 : Blk4 w1 w.heap.size (0, 0, 0, 0) := blk4_block hZ ((hgrow.block w.heap.size (by simp; omega) (fun e => by have := (hown.lt _ e.symm).1; omega)).trans (Below.heap_alloc wr _ _ (by omega)))
      have hown1 : w1.ownsRow (w.heap.size + 1) 22 1 v' ((s.size + 3) / 4 + 1) ((bwl s ((s.size + 3) / 4)).map (Value.int .u32)) := by
        unfold bwl
        rw [List.map_append, List.map_map]
        exact hown'
      obtain ⟨A1, c1, rfl, hr1⟩ := own_rd hown1
      have hln : (bwl s ((s.size + 3) / 4)).length < 1099511627776 := by unfold bwl; simp; omega
      have hsz : w.heap.size < w1.heap.size := by have := hgrow.size; simp at this; omega
      clear hown hown1 hown' hgrow hB hZ hb
      go_wp2_with fail
      refine (rwords_any tag A1 c1 _ _ hln hr1).mono ?_
      rintro e w2 ⟨rfl, hb2⟩
      have hZ2 := hZ1.below hb2 hsz
      have hb3 : Below w.heap.size w w2 := hb1.trans (hb2.mono hb1.size)
      clear hZ1 hb1 hb2
      obtain ⟨c0, c1, c2, c3, f0, f1, f2, f3⟩ := id hZ2
      go_wp2_with fail
      refine bodyPost_ret (v := dv (words tag (bwl s ((s.size + 3) / 4)))) (by simp [results, Try.results19, go_sem, c0, c1, c2, c3]) rfl ⟨rfl, ?_⟩
      (repeat (first | with_reducible exact Below.refl _ _ | with_reducible refine bl_drewN ?_ _ | with_reducible refine Below.drew ?_ | with_reducible refine bl_alloc ?_ _ | with_reducible refine Below.alloc ?_ (by first | omega | (simp; done) | (simp; omega)) _ | with_reducible refine Below.setCell ?_ (by first | omega | (simp; done) | (simp; omega)) _ | with_reducible assumption))

set_option maxHeartbeats 1000000 in
theorem bytes_any (tag : Int) (s : ByteArray) (w : World) (hl : s.size < 1000000) :
    Calls Try.prog 18 #[.int .u32 tag, .string s] w fun e w' => e = .returned (dv (words tag (bwl s ((s.size + 3) / 4)))) ∧ Below w.heap.size w w' := by
  obtain ⟨i0, hi, hz0, hz1, hz2⟩ := info_parts info32
  have hmk := mk_row ((s.size + 3) / 4) ((s.size + 3) / 4 + 1) (((s.size : Int) + 3) / 4) (((s.size : Int) + 3) / 4 + 1) (by omega) (by omega) (by omega) (by omega)
  go_enter Try.func18, Try.ntmps18
  go_wp2_with fail
  go_loopw [6] (fun j wr => ∃ k : Nat, k ≤ s.size ∧ j = .int .i64 k ∧ Mw.Bk wr (w.heap.size + 1) 22 (rowA (bw s k) ((s.size + 3) / 4 + 1)) ∧ Blk4 wr w.heap.size (0, 0, 0, 0) ∧ Below w.heap.size w wr) (fun j _ => s.size - (intOf j).toNat)
  case atStart => exact ⟨0, by omega, rfl, Mw.Bk.new' (by simp), by unfold Blk4; go_simp, by (repeat (first | with_reducible exact Below.refl _ _ | with_reducible refine bl_drewN ?_ _ | with_reducible refine Below.drew ?_ | with_reducible refine bl_alloc ?_ _ | with_reducible refine Below.alloc ?_ (by first | omega | (simp; done) | (simp; omega)) _ | with_reducible refine Below.setCell ?_ (by first | omega | (simp; done) | (simp; omega)) _ | with_reducible assumption))⟩
  case round =>
    obtain ⟨k, hk, rfl, hB, hZ, hb⟩ := hrel
    have hz := hB.lt
    clear hmk
    by_cases hlt : k < s.size
    · have Hby := Lib.hid (byt_at s k hlt)
      have hc0 : (0 : Int) ≤ ↑s[k].toNat := by omega
      have hc1 : (↑s[k].toNat : Int) ≤ 255 := by have := s[k].toNat_lt; omega
      have hcell : wr.cell? ⟨w.heap.size + 1, k / 4, none⟩ = some (.int .u32 (bw s k (k / 4))) := (hB.cell _).trans (rowA_at _ _ _ (by omega))
      have hfz := hB.frozen (k / 4)
      have q1 : (0 : Int) ≤ k := by omega
      have q2 : (k : Int) < s.size := by omega
      have q3 : (k : Int) / 4 < ((s.size : Int) + 3) / 4 := by omega
      have q4 : (0 : Int) ≤ (k : Int) / 4 := by omega
      have q5 : (0 : Int) ≤ (k : Int) % 4 ∧ (k : Int) % 4 < 4 := by omega
      go_wp2_with fail
      go_region
      go_wp2_with fail
      go_roundw
      case rel =>
        refine ⟨k + 1, by omega, by go_num, ?_, ?_, ?_⟩
        · have := hB.set (k / 4) (.int .u32 (bits .or .u32 (bw s k (k / 4)) (↑s[k].toNat * 2 ^ (k % 4 * 8) % 4294967296)))
          rw [bw_step s k _ _ Hby.out _ rfl] at this
          first | exact this | (rw [Nat.mul_comm]; exact this)
        · exact blk4_set hZ (by omega)
        · (repeat (first | with_reducible exact Below.refl _ _ | with_reducible refine bl_drewN ?_ _ | with_reducible refine Below.drew ?_ | with_reducible refine bl_alloc ?_ _ | with_reducible refine Below.alloc ?_ (by first | omega | (simp; done) | (simp; omega)) _ | with_reducible refine Below.setCell ?_ (by first | omega | (simp; done) | (simp; omega)) _ | with_reducible assumption))
      case measure => simp [intOf]; omega
    · obtain rfl : k = s.size := by omega
      have hown := bk_own (n := (s.size + 3) / 4) (base := w.heap.size + 1) hB (by omega) (by simp only [maxLen]; omega) (Nat.le_refl _)
      go_wp2_with (at_builtin; refine wpList_append_own _ rfl _ _ 34 rfl (w.heap.size + 1) 22 i0 (.int .u32 0) 1 4 Try.underlying34 hi hz0 hz1 hz2 rfl (by decide) _ _ _ rfl (hown.alloc _) ⟨wr.heap.size, 0, none⟩ 1 1 [_] rfl rfl (cell_one_new _ _ _) ?c2 ?c3 ?c4 ?c5 ?_)
      case c2 => simp [Value.oneCell']
      case c3 => simp only [maxLen]; omega
      case c4 => omega
      case c5 => simp; omega
      intro v' w1 hown' hgrow _
      have hb1 : Below w.heap.size w w1 := (hb.alloc hb.size _).grown hgrow (by have := hb.size; simp; omega) (fun j hj => by have := (hown.lt j hj).1; omega)
      have hZ1 : Blk4 w1 w.heap.size (0, 0, 0, 0) := blk4_block hZ ((hgrow.block w.heap.size (by simp; omega) (fun e => by have := (hown.lt _ e.symm).1; omega)).trans (Below.heap_alloc wr _ _ (by omega)))
      have hown1 : w1.ownsRow (w.heap.size + 1) 22 1 v' ((s.size + 3) / 4 + 1) ((bwl s ((s.size + 3) / 4)).map (Value.int .u32)) := by
        unfold bwl
        rw [List.map_append, List.map_map]
        exact hown'
      obtain ⟨A1, c1, rfl, hr1⟩ := own_rd hown1
      have hln : (bwl s ((s.size + 3) / 4)).length < 1099511627776 := by unfold bwl; simp; omega
      have hsz : w.heap.size < w1.heap.size := by have := hgrow.size; simp at this; omega
      clear hown hown1 hown' hgrow hB hZ hb
      go_wp2_with fail
      refine (words_any tag A1 c1 _ _ hln hr1).mono ?_
      rintro e w2 ⟨rfl, hb2⟩
      have hZ2 := hZ1.below hb2 hsz
      have hb3 : Below w.heap.size w w2 := hb1.trans (hb2.mono hb1.size)
      clear hZ1 hb1 hb2
      obtain ⟨c0, c1, c2, c3, f0, f1, f2, f3⟩ := id hZ2
      go_wp2_with fail
      refine bodyPost_ret (v := dv (words tag (bwl s ((s.size + 3) / 4)))) (by simp [results, Try.results18, go_sem, c0, c1, c2, c3]) rfl ⟨rfl, ?_⟩
      (repeat (first | with_reducible exact Below.refl _ _ | with_reducible refine bl_drewN ?_ _ | with_reducible refine Below.drew ?_ | with_reducible refine bl_alloc ?_ _ | with_reducible refine Below.alloc ?_ (by first | omega | (simp; done) | (simp; omega)) _ | with_reducible refine Below.setCell ?_ (by first | omega | (simp; done) | (simp; omega)) _ | with_reducible assumption))

end Go.Proofs.Ytoiipifoehfcdaa.Dg
