/- Walks: Numbers of the program and of the reference. -/
import Derived.Test.YtdikoffppjoomaaGreatGR
import Derived.WalkKit
import Derived.WalkSpells
import Derived.WalkLawsBesides
import Derived.Deep.QuietTactic
import Derived.BigQuiet
import Derived.Deep.Draws
import Derived.Deep.AppendLies
import Derived.Laws.OwnMore
import Derived.Laws.BytesArg
import Derived.Lib.Hide
import Derived.Deep.LoopGhost
import Derived.OwnWalk
namespace Go.Proofs.YtdikoffppjoomaaGreat.Dg
open Go.RowKit
set_option linter.unusedVariables false
set_option linter.unusedSimpArgs false

def lo32 (n : Int) : Int := IntKind.u64.wrap n % 4294967296
def hi32 (n : Int) : Int := IntKind.u64.wrap n / 4294967296 % 4294967296
theorem two_cells (W : World) (a b : Value) (T : TypeId) (g : Nat) (hg : g = W.heap.size) : ∀ j u, [a, b][j]? = some u → (W.alloc (.cells #[a, b] T)).cell? ((⟨g, 0, none⟩ : Addr).add j) = some u := by
  subst hg
  intro j u hu
  match j, hu with
  | 0, hu => cases hu; simp [Addr.add, World.cell?_alloc_at]
  | 1, hu => cases hu; simp [Addr.add, World.cell?_alloc_at]
  | j + 2, hu => simp at hu
/-- The words of the first numbers. -/
def nw (l : List Int) : Nat → List Int
  | 0 => []
  | k + 1 => nw l k ++ [lo32 (gi l k), hi32 (gi l k)]
theorem nw_len (l : List Int) : ∀ k, (nw l k).length = 2 * k
  | 0 => rfl
  | k + 1 => by unfold nw; rw [List.length_append, nw_len l k]; simp; omega

theorem nw_words (tag : Int) (l : List Int) (k : Nat) (h : ¬ k < l.length) (hk : k ≤ l.length) : words tag (nw l k) = words tag (nw l l.length) := by rw [show k = l.length by omega]
theorem Rd.own {w : World} {B base : Nat} {e : TypeId} {kd : IntKind} {A : Option Addr} {c n : Nat} {l : List Int} (h : w.ownsRow base e 1 (.slice A n c) n (l.map (Value.int kd))) (hB : w.heap.size ≤ B) : Rd w B kd A l := fun i hi => by
  have hn : n = l.length := by have := h.1; simpa using this.symm
  obtain ⟨g, cap, hv, _, hlt⟩ := h.form (by omega)
  have hA : A = some ⟨g, 0, none⟩ := by injection hv
  subst hA
  refine ⟨g, 0, rfl, by omega, ?_⟩
  rw [Nat.zero_add, h.cellAt i (by omega), List.getElem?_map]
  simp [gi, List.getElem?_eq_getElem hi]
/-- A row of the call's own, of integers, as a slice. -/
theorem own_rd {w : World} {base : Nat} {e : TypeId} {kd : IntKind} {v : Value} {n : Nat} {l : List Int} (h : w.ownsRow base e 1 v n (l.map (Value.int kd))) : ∃ A c, v = .slice A l.length c ∧ Rd w w.heap.size kd A l := by
  have hn : n = l.length := by have := h.1; simpa using this.symm
  subst hn
  rcases h.2 with ⟨rfl, h0⟩ | ⟨g, cap, cur, rfl, hg, _⟩
  · obtain rfl := List.length_eq_zero_iff.1 h0
    exact ⟨none, 0, rfl, fun i hi => absurd hi (by simp)⟩
  · exact ⟨_, cap, rfl, Rd.own h (Nat.le_refl _)⟩

set_option maxHeartbeats 1000000 in
theorem rnumbers_any (tag : Int) (A : Option Addr) (c : Nat) (l : List Int) (w : World) (hl : l.length < 1000000) (hr : Rd w w.heap.size .i64 A l) :
    Calls Tryz.prog 69 #[.int .u32 tag, .slice A l.length c] w fun e w' => e = .returned (dv (words tag (nw l l.length))) ∧ Below w.heap.size w w' := by
  obtain ⟨i0, hi, hz0, hz1, hz2⟩ := info_parts info32
  go_enter Tryz.func69, Tryz.ntmps69
  go_wp2_with fail
  go_loopw [5, 6] (fun v j wr => ∃ k : Nat, k ≤ l.length ∧ j = .int .i64 k ∧ wr.ownsRow (w.heap.size + 1) 33 1 v (2 * k) ((nw l k).map (Value.int .u32)) ∧ Blk4 wr w.heap.size (0, 0, 0, 0) ∧ w.heap.size < wr.heap.size ∧ Below w.heap.size w wr) (fun _ j _ => l.length - (intOf j).toNat)
  case atStart => first | exact ⟨0, by omega, rfl, World.ownsRow_nil _ _ _ _, by unfold Blk4; go_simp, by simp, by (repeat (first | with_reducible exact Below.refl _ _ | with_reducible refine bl_drewN ?_ _ | with_reducible refine Below.drew ?_ | with_reducible refine bl_alloc ?_ _ | with_reducible refine Below.alloc ?_ (by first | omega | (simp; done) | (simp; omega)) _ | with_reducible refine Below.setCell ?_ (by first | omega | (simp; done) | (simp; omega)) _ | with_reducible assumption))⟩ | exact ⟨0, by omega, rfl, hown0, hZ0, hs0, hb0⟩
  case round =>
    obtain ⟨k, hk, rfl, hown, hZ, hsz, hb⟩ := hrel
    by_cases hlt : k < l.length
    · obtain ⟨b, off, rfl, hbl, hc⟩ := (hr.below hb) k hlt
      go_wp2_with (at_builtin; refine wpList_append_own _ rfl _ _ 128 rfl (w.heap.size + 1) 33 i0 (.int .u32 0) 1 4 Tryz.underlying128 hi hz0 hz1 hz2 rfl (by decide) _ _ _ rfl (hown.alloc _) ⟨wr.heap.size, 0, none⟩ 2 2 [_, _] rfl rfl (two_cells _ _ _ _ _ rfl) ?c2 ?c3 ?c4 ?c5 ?_)
      case c2 => simp [Value.oneCell']
      case c3 => simp only [maxLen]; omega
      case c4 => omega
      case c5 => simp; omega
      intro v' w1 hown' hgrow _
      have hb1 : Below w.heap.size w w1 := (hb.alloc hb.size _).grown hgrow (by have := hb.size; simp; omega) (fun j hj => by have := (hown.lt j hj).1; omega)
      have hown1 : w1.ownsRow (w.heap.size + 1) 33 1 v' (2 * (k + 1)) ((nw l (k + 1)).map (Value.int .u32)) := by
        rw [show 2 * (k + 1) = 2 * k + 2 by omega, nw, List.map_append]
        exact hown'
      have hZ1 : Blk4 w1 w.heap.size (0, 0, 0, 0) := by
        have h := hgrow.block w.heap.size (by simp; omega) (fun e => by have := (hown.lt _ e.symm).1; omega)
        have h2 : w1.heap[w.heap.size]? = wr.heap[w.heap.size]? := h.trans (Below.heap_alloc wr _ _ hsz)
        obtain ⟨c0, c1, c2, c3, f0, f1, f2, f3⟩ := hZ
        have hc' : ∀ o, w1.cell? ⟨w.heap.size, o, none⟩ = wr.cell? ⟨w.heap.size, o, none⟩ := fun o => World.cell?_of_block (a := ⟨w.heap.size, o, none⟩) h2
        have hf' : ∀ o, w1.frozen? ⟨w.heap.size, o, none⟩ = wr.frozen? ⟨w.heap.size, o, none⟩ := fun o => World.frozen?_of_block (a := ⟨w.heap.size, o, none⟩) h2
        unfold Blk4
        simp only [hc', hf']
        exact ⟨c0, c1, c2, c3, f0, f1, f2, f3⟩
      have hsz1 : w.heap.size < w1.heap.size := by have := hgrow.size; simp at this; omega
      clear hown' hgrow hown hb hZ hc
      go_wp2_with fail
      go_roundw
      case rel => exact ⟨k + 1, by omega, by go_num, hown1, hZ1, hsz1, hb1⟩
      case measure => simp [intOf]; omega
    · obtain ⟨A1, c1, rfl, hr1⟩ := own_rd hown
      have hln : (nw l k).length < 1099511627776 := by rw [nw_len]; omega
      have Hw := Lib.hid (nw_words tag l k hlt hk)
      clear hown
      go_wp2_with fail
      refine (rwords_any tag A1 c1 (nw l k) _ hln hr1).mono ?_
      rintro e w2 ⟨rfl, hb2⟩
      have hZ2 := hZ.below hb2 hsz
      have hb3 : Below w.heap.size w w2 := hb.trans (hb2.mono hb.size)
      clear hZ hb hb2
      obtain ⟨c0, c1, c2, c3, f0, f1, f2, f3⟩ := id hZ2
      go_wp2_with fail
      refine bodyPost_ret (v := dv (words tag (nw l k))) (by simp [results, Tryz.results69, go_sem, c0, c1, c2, c3]) rfl ⟨by rw [Hw.out], ?_⟩
      (repeat (first | with_reducible exact Below.refl _ _ | with_reducible refine bl_drewN ?_ _ | with_reducible refine Below.drew ?_ | with_reducible refine bl_alloc ?_ _ | with_reducible refine Below.alloc ?_ (by first | omega | (simp; done) | (simp; omega)) _ | with_reducible refine Below.setCell ?_ (by first | omega | (simp; done) | (simp; omega)) _ | with_reducible assumption))

set_option maxHeartbeats 1000000 in
theorem numbers_any (tag : Int) (A : Option Addr) (c : Nat) (l : List Int) (w : World) (hl : l.length < 1000000) (hr : Rd w w.heap.size .i64 A l) :
    Calls Tryz.prog 68 #[.int .u32 tag, .slice A l.length c] w fun e w' => e = .returned (dv (words tag (nw l l.length))) ∧ Below w.heap.size w w' := by
  obtain ⟨i0, hi, hz0, hz1, hz2⟩ := info_parts info32
  go_enter Tryz.func68, Tryz.ntmps68
  go_wp2_with (at_make; refine wpList_make_own _ rfl _ _ 128 rfl (w.heap.size + 1) 33 i0 (.int .u32 0) 1 Tryz.underlying128 hi hz0 hz1 _ _ _ (2 * l.length) rfl rfl ?m1 ?m2 ?m3 ?m4 ?_)
  case m1 => omega
  case m2 => rw [hz2]; omega
  case m3 => simp only [maxLen]; omega
  case m4 => simp
  intro w1 hown0 hg0
  have hb0 : Below w.heap.size w w1 := (bl_alloc (Below.refl _ _) _).grown hg0 (by simp) (fun j hj => by cases hj)
  have hs0 : w.heap.size < w1.heap.size := by have := hg0.size; simp at this; omega
  have hZ0 : Blk4 w1 w.heap.size (0, 0, 0, 0) := by
    have h2 := hg0.block w.heap.size (by simp) (by simp)
    have hc' : ∀ o, w1.cell? ⟨w.heap.size, o, none⟩ = _ := fun o => World.cell?_of_block (a := ⟨w.heap.size, o, none⟩) h2
    have hf' : ∀ o, w1.frozen? ⟨w.heap.size, o, none⟩ = _ := fun o => World.frozen?_of_block (a := ⟨w.heap.size, o, none⟩) h2
    unfold Blk4
    simp only [hc', hf']
    go_simp
  clear hg0
  go_wp2_with fail
  go_loopw [5, 15] (fun v j wr => ∃ k : Nat, k ≤ l.length ∧ j = .int .i64 k ∧ wr.ownsRow (w.heap.size + 1) 33 1 v (2 * k) ((nw l k).map (Value.int .u32)) ∧ Blk4 wr w.heap.size (0, 0, 0, 0) ∧ w.heap.size < wr.heap.size ∧ Below w.heap.size w wr) (fun _ j _ => l.length - (intOf j).toNat)
  case atStart => first | exact ⟨0, by omega, rfl, World.ownsRow_nil _ _ _ _, by unfold Blk4; go_simp, by simp, by (repeat (first | with_reducible exact Below.refl _ _ | with_reducible refine bl_drewN ?_ _ | with_reducible refine Below.drew ?_ | with_reducible refine bl_alloc ?_ _ | with_reducible refine Below.alloc ?_ (by first | omega | (simp; done) | (simp; omega)) _ | with_reducible refine Below.setCell ?_ (by first | omega | (simp; done) | (simp; omega)) _ | with_reducible assumption))⟩ | exact ⟨0, by omega, rfl, hown0, hZ0, hs0, hb0⟩
  case round =>
    obtain ⟨k, hk, rfl, hown, hZ, hsz, hb⟩ := hrel
    by_cases hlt : k < l.length
    · obtain ⟨b, off, rfl, hbl, hc⟩ := (hr.below hb) k hlt
      go_wp2_with (at_builtin; refine wpList_append_own _ rfl _ _ 128 rfl (w.heap.size + 1) 33 i0 (.int .u32 0) 1 4 Tryz.underlying128 hi hz0 hz1 hz2 rfl (by decide) _ _ _ rfl (hown.alloc _) ⟨wr.heap.size, 0, none⟩ 2 2 [_, _] rfl rfl (two_cells _ _ _ _ _ rfl) ?c2 ?c3 ?c4 ?c5 ?_)
      case c2 => simp [Value.oneCell']
      case c3 => simp only [maxLen]; omega
      case c4 => omega
      case c5 => simp; omega
      intro v' w1 hown' hgrow _
      have hb1 : Below w.heap.size w w1 := (hb.alloc hb.size _).grown hgrow (by have := hb.size; simp; omega) (fun j hj => by have := (hown.lt j hj).1; omega)
      have hown1 : w1.ownsRow (w.heap.size + 1) 33 1 v' (2 * (k + 1)) ((nw l (k + 1)).map (Value.int .u32)) := by
        rw [show 2 * (k + 1) = 2 * k + 2 by omega, nw, List.map_append]
        exact hown'
      have hZ1 : Blk4 w1 w.heap.size (0, 0, 0, 0) := by
        have h := hgrow.block w.heap.size (by simp; omega) (fun e => by have := (hown.lt _ e.symm).1; omega)
        have h2 : w1.heap[w.heap.size]? = wr.heap[w.heap.size]? := h.trans (Below.heap_alloc wr _ _ hsz)
        obtain ⟨c0, c1, c2, c3, f0, f1, f2, f3⟩ := hZ
        have hc' : ∀ o, w1.cell? ⟨w.heap.size, o, none⟩ = wr.cell? ⟨w.heap.size, o, none⟩ := fun o => World.cell?_of_block (a := ⟨w.heap.size, o, none⟩) h2
        have hf' : ∀ o, w1.frozen? ⟨w.heap.size, o, none⟩ = wr.frozen? ⟨w.heap.size, o, none⟩ := fun o => World.frozen?_of_block (a := ⟨w.heap.size, o, none⟩) h2
        unfold Blk4
        simp only [hc', hf']
        exact ⟨c0, c1, c2, c3, f0, f1, f2, f3⟩
      have hsz1 : w.heap.size < w1.heap.size := by have := hgrow.size; simp at this; omega
      clear hown' hgrow hown hb hZ hc
      go_wp2_with fail
      go_roundw
      case rel => exact ⟨k + 1, by omega, by go_num, hown1, hZ1, hsz1, hb1⟩
      case measure => simp [intOf]; omega
    · obtain ⟨A1, c1, rfl, hr1⟩ := own_rd hown
      have hln : (nw l k).length < 1099511627776 := by rw [nw_len]; omega
      have Hw := Lib.hid (nw_words tag l k hlt hk)
      clear hown
      go_wp2_with fail
      refine (words_any tag A1 c1 (nw l k) _ hln hr1).mono ?_
      rintro e w2 ⟨rfl, hb2⟩
      have hZ2 := hZ.below hb2 hsz
      have hb3 : Below w.heap.size w w2 := hb.trans (hb2.mono hb.size)
      clear hZ hb hb2
      obtain ⟨c0, c1, c2, c3, f0, f1, f2, f3⟩ := id hZ2
      go_wp2_with fail
      refine bodyPost_ret (v := dv (words tag (nw l k))) (by simp [results, Tryz.results68, go_sem, c0, c1, c2, c3]) rfl ⟨by rw [Hw.out], ?_⟩
      (repeat (first | with_reducible exact Below.refl _ _ | with_reducible refine bl_drewN ?_ _ | with_reducible refine Below.drew ?_ | with_reducible refine bl_alloc ?_ _ | with_reducible refine Below.alloc ?_ (by first | omega | (simp; done) | (simp; omega)) _ | with_reducible refine Below.setCell ?_ (by first | omega | (simp; done) | (simp; omega)) _ | with_reducible assumption))

end Go.Proofs.YtdikoffppjoomaaGreat.Dg
