/- Walks: the reference: gone, find, holds, SameLog. -/
import Derived.Test.YtdikoffppjoomaaGreatCL
import Derived.WalkKit
import Derived.WalkSpells
import Derived.WalkLawsBesides
import Derived.Deep.QuietTactic
import Derived.BigQuiet
import Derived.Deep.Draws
import Derived.Deep.AppendLies
import Derived.Laws.OwnMore
import Derived.Laws.BytesArg
import Derived.Lib.Hide
import Derived.Deep.LoopGhost
namespace Go.Proofs.YtdikoffppjoomaaGreat.Ct
open Go.RowKit Go.Proofs.YtdikoffppjoomaaGreat.Dg
open Go.Proofs.YtdikoffppjoomaaGreat.Mw (I64 ret_int ret_bool Bk bl_trans own_ints RdI RdR ge ge_lt gi ge_mem own_rows)
set_option linter.unusedVariables false
set_option linter.unusedSimpArgs false
set_option maxRecDepth 100000

theorem take_ge {L : List Le} {n : Nat} (h : n < L.length) : L.take (n + 1) = L.take n ++ [ge L n] := take_gE h
theorem gon_take {L : List Le} {k : Nat} {id : Int} (h : gon (L.take k) id = true) : gon L id = true := by
  unfold gon at h ⊢
  rw [List.any_eq_true] at h ⊢
  obtain ⟨x, hx, h1⟩ := h
  exact ⟨x, List.mem_of_mem_take hx, h1⟩
theorem fnd_take {L : List Le} {k : Nat} {id : Int} {c : Cf} (h : fnd (L.take k) id = some c) : fnd L id = some c := by
  have e : ∀ (a b : List Le), fnd a id = some c → fnd (a ++ b) id = some c := by
    intro a b
    induction a with
    | nil => intro h; cases h
    | cons x a ih =>
      intro h
      rw [List.cons_append]
      unfold fnd at h ⊢
      split
      · rename_i h1; rw [if_pos h1] at h; exact h
      · rename_i h1; rw [if_neg h1] at h; exact ih h
  have := e _ (L.drop k) h
  rwa [List.take_append_drop] at this
set_option maxHeartbeats 2000000 in
theorem rgone_any (l : List Le) (A : Option Addr) (c : Nat) (id : Int) (w : World) (hr : RdL w A l) (hl : l.length ≤ maxLen) : Calls Tryz.prog 71 #[.slice A l.length c, .int .i64 id] w fun e w' => e = .returned (.bool (gon l id)) ∧ Below w.heap.size w w' := by
  have HR := Lib.hid hr
  clear hr
  simp only [maxLen] at hl
  go_enter Tryz.func71, Tryz.ntmps71
  go_wp2_with fail
  go_loopw [5] (fun i wr => ∃ k : Nat, k ≤ l.length ∧ i = .int .i64 k ∧ gon (l.take k) id = false ∧ Below w.heap.size w wr) (fun i _ => l.length - (RowKit.intOf i).toNat)
  case atStart => exact ⟨0, by omega, rfl, rfl, Below.refl _ _⟩
  case round =>
    obtain ⟨k, hk, rfl, hg, hb⟩ := hrel
    by_cases hlt : k < l.length
    · obtain ⟨b, off, rfl, hbl, c0, c1, c2, c3, c4, c5⟩ := le_at (HR.out.old hb) k hlt
      have hlt' : (k : Int) < l.length := by omega
      have HG := Lib.hid hg
      clear hg
      by_cases h1 : (ge l k).k = 1
      · by_cases h2 : (ge l k).f.i = id
        · have HN : Hid (gn1 (ge l k) id = true) := decide_eq_true (.inl ⟨h1, h2⟩)
          have t1 : ((ge l k).k == 1) = true := beq_iff_eq.2 h1
          have t2 : ((ge l k).f.i == id) = true := beq_iff_eq.2 h2
          clear h1 h2
          have H : Hid (gon l id = true) := gon_take (k := k + 1) (by rw [take_ge hlt, gon_snoc, HN.out, Bool.or_true])
          clear HN
          go_wp2_with fail
          go_ret
          exact ⟨by rw [H.out] <;> rfl, by (repeat (first | with_reducible exact Below.refl _ _ | with_reducible refine bl_drewN ?_ _ | with_reducible refine Below.drew ?_ | with_reducible refine bl_alloc ?_ _ | with_reducible refine Below.alloc ?_ (by first | omega | (simp; done) | (simp; omega)) _ | with_reducible refine Below.setCell ?_ (by first | omega | (simp; done) | (simp; omega)) _ | with_reducible assumption))⟩
        · have h0 : ¬ (ge l k).k = 0 := by omega
          have HN : Hid (gn1 (ge l k) id = false) := decide_eq_false (fun h => by rcases h with h | h; exact h2 h.2; exact h0 h.1)
          have t1 : ((ge l k).k == 1) = true := beq_iff_eq.2 h1
          have t2 : ((ge l k).f.i == id) = false := beq_eq_false_iff_ne.2 h2
          have t3 : ((ge l k).k == 0) = false := beq_eq_false_iff_ne.2 h0
          clear h1 h2 h0
          have H : Hid (gon (l.take (k + 1)) id = false) := by unfold Hid; rw [take_ge hlt, gon_snoc, HG.out, HN.out]; rfl
          clear HN
          go_wp2_with fail
          go_roundw
          case rel => exact ⟨k + 1, by omega, by go_num, H.out, by (repeat (first | with_reducible exact Below.refl _ _ | with_reducible refine bl_drewN ?_ _ | with_reducible refine Below.drew ?_ | with_reducible refine bl_alloc ?_ _ | with_reducible refine Below.alloc ?_ (by first | omega | (simp; done) | (simp; omega)) _ | with_reducible refine Below.setCell ?_ (by first | omega | (simp; done) | (simp; omega)) _ | with_reducible assumption))⟩
          case measure => simp [RowKit.intOf]; omega
      · by_cases h0 : (ge l k).k = 0
        · by_cases h2 : (ge l k).f.r = id
          · have HN : Hid (gn1 (ge l k) id = true) := decide_eq_true (.inr ⟨h0, h2⟩)
            have t1 : ((ge l k).k == 1) = false := beq_eq_false_iff_ne.2 h1
            have t3 : ((ge l k).k == 0) = true := beq_iff_eq.2 h0
            have t4 : ((ge l k).f.r == id) = true := beq_iff_eq.2 h2
            clear h1 h2 h0
            have H : Hid (gon l id = true) := gon_take (k := k + 1) (by rw [take_ge hlt, gon_snoc, HN.out, Bool.or_true])
            clear HN
            go_wp2_with fail
            go_ret
            exact ⟨by rw [H.out] <;> rfl, by (repeat (first | with_reducible exact Below.refl _ _ | with_reducible refine bl_drewN ?_ _ | with_reducible refine Below.drew ?_ | with_reducible refine bl_alloc ?_ _ | with_reducible refine Below.alloc ?_ (by first | omega | (simp; done) | (simp; omega)) _ | with_reducible refine Below.setCell ?_ (by first | omega | (simp; done) | (simp; omega)) _ | with_reducible assumption))⟩
          · have HN : Hid (gn1 (ge l k) id = false) := decide_eq_false (fun h => by rcases h with h | h; exact h1 h.1; exact h2 h.2)
            have t1 : ((ge l k).k == 1) = false := beq_eq_false_iff_ne.2 h1
            have t3 : ((ge l k).k == 0) = true := beq_iff_eq.2 h0
            have t4 : ((ge l k).f.r == id) = false := beq_eq_false_iff_ne.2 h2
            clear h1 h2 h0
            have H : Hid (gon (l.take (k + 1)) id = false) := by unfold Hid; rw [take_ge hlt, gon_snoc, HG.out, HN.out]; rfl
            clear HN
            go_wp2_with fail
            go_roundw
            case rel => exact ⟨k + 1, by omega, by go_num, H.out, by (repeat (first | with_reducible exact Below.refl _ _ | with_reducible refine bl_drewN ?_ _ | with_reducible refine Below.drew ?_ | with_reducible refine bl_alloc ?_ _ | with_reducible refine Below.alloc ?_ (by first | omega | (simp; done) | (simp; omega)) _ | with_reducible refine Below.setCell ?_ (by first | omega | (simp; done) | (simp; omega)) _ | with_reducible assumption))⟩
            case measure => simp [RowKit.intOf]; omega
        · have HN : Hid (gn1 (ge l k) id = false) := decide_eq_false (fun h => by rcases h with h | h; exact h1 h.1; exact h0 h.1)
          have t1 : ((ge l k).k == 1) = false := beq_eq_false_iff_ne.2 h1
          have t3 : ((ge l k).k == 0) = false := beq_eq_false_iff_ne.2 h0
          clear h1 h0
          have H : Hid (gon (l.take (k + 1)) id = false) := by unfold Hid; rw [take_ge hlt, gon_snoc, HG.out, HN.out]; rfl
          clear HN
          go_wp2_with fail
          go_roundw
          case rel => exact ⟨k + 1, by omega, by go_num, H.out, by (repeat (first | with_reducible exact Below.refl _ _ | with_reducible refine bl_drewN ?_ _ | with_reducible refine Below.drew ?_ | with_reducible refine bl_alloc ?_ _ | with_reducible refine Below.alloc ?_ (by first | omega | (simp; done) | (simp; omega)) _ | with_reducible refine Below.setCell ?_ (by first | omega | (simp; done) | (simp; omega)) _ | with_reducible assumption))⟩
          case measure => simp [RowKit.intOf]; omega
    · have hkl : k = l.length := by omega
      have H : Hid (gon l id = false) := by unfold Hid; rw [hkl, List.take_length] at hg; exact hg
      clear hkl hg
      go_wp2_with fail
      go_ret
      exact ⟨by rw [H.out] <;> rfl, hb⟩
set_option maxHeartbeats 2000000 in
theorem rfind_any (l : List Le) (A : Option Addr) (c : Nat) (id : Int) (w : World) (hr : RdL w A l) (hl : l.length ≤ maxLen) : Calls Tryz.prog 78 #[.slice A l.length c, .int .i64 id] w fun e w' => e = .returned (.tuple #[cfv ((fnd l id).getD default), .bool (fnd l id).isSome]) ∧ Below w.heap.size w w' := by
  have HR := Lib.hid hr
  clear hr
  simp only [maxLen] at hl
  go_enter Tryz.func78, Tryz.ntmps78
  go_wp2_with fail
  go_loopw [6] (fun i wr => ∃ k : Nat, k ≤ l.length ∧ i = .int .i64 k ∧ fnd (l.take k) id = none ∧ Bk wr w.heap.size 46 #[.int .i64 0, .int .i64 0, .int .i64 0, .int .i64 0, .int .i64 0] ∧ Below w.heap.size w wr) (fun i _ => l.length - (RowKit.intOf i).toNat)
  case atStart => exact ⟨0, by omega, rfl, rfl, Mw.Bk.new _ _ _, by (repeat (first | with_reducible exact Below.refl _ _ | with_reducible refine bl_drewN ?_ _ | with_reducible refine Below.drew ?_ | with_reducible refine bl_alloc ?_ _ | with_reducible refine Below.alloc ?_ (by first | omega | (simp; done) | (simp; omega)) _ | with_reducible refine Below.setCell ?_ (by first | omega | (simp; done) | (simp; omega)) _ | with_reducible assumption))⟩
  case round =>
    obtain ⟨k, hk, rfl, hg, hB, hb⟩ := hrel
    by_cases hlt : k < l.length
    · obtain ⟨b, off, rfl, hbl, c0, c1, c2, c3, c4, c5⟩ := le_at (HR.out.old hb) k hlt
      have hlt' : (k : Int) < l.length := by omega
      have HG := Lib.hid hg
      have hf : fnd (l.take (k + 1)) id = if (ge l k).k = 0 ∧ (ge l k).f.i = id then some (ge l k).f else none := by rw [take_ge hlt, fnd_snoc, hg]
      clear hg
      by_cases h0 : (ge l k).k = 0
      · have t0 : ((ge l k).k == 0) = true := beq_iff_eq.2 h0
        by_cases h1 : (ge l k).f.i = id
        · have t1 : ((ge l k).f.i == id) = true := beq_iff_eq.2 h1
          have H : Hid (fnd l id = some (ge l k).f) := fnd_take (k := k + 1) (by rw [hf, if_pos ⟨h0, h1⟩])
          have zf := fun o => hB.frozen o
          have z0 := hB.cell 0
          have z1 := hB.cell 1
          have z2 := hB.cell 2
          have z3 := hB.cell 3
          have z4 := hB.cell 4
          have zl := hB.lt
          clear hf HG h0 h1
          go_wp2_with fail
          clear zf z0 z1 z2 z3 z4 zl c0 c1 c2 c3 c4 c5
          have hBz := (Mw.Bk.set (Mw.Bk.set (Mw.Bk.set (Mw.Bk.set (Mw.Bk.set hB 0 (.int .i64 (ge l k).f.i)) 1 (.int .i64 (ge l k).f.c)) 2 (.int .i64 (ge l k).f.g)) 3 (.int .i64 (ge l k).f.t)) 4 (.int .i64 (ge l k).f.r))
          simp only [List.setIfInBounds_toArray, List.set_cons_zero, List.set_cons_succ] at hBz
          have hbz : Below w.heap.size w (((((wr.setCell ⟨w.heap.size, 0, none⟩ (.int .i64 (ge l k).f.i)).setCell ⟨w.heap.size, 1, none⟩ (.int .i64 (ge l k).f.c)).setCell ⟨w.heap.size, 2, none⟩ (.int .i64 (ge l k).f.g)).setCell ⟨w.heap.size, 3, none⟩ (.int .i64 (ge l k).f.t)).setCell ⟨w.heap.size, 4, none⟩ (.int .i64 (ge l k).f.r)) := by (repeat (first | with_reducible exact Below.refl _ _ | with_reducible refine bl_drewN ?_ _ | with_reducible refine Below.drew ?_ | with_reducible refine bl_alloc ?_ _ | with_reducible refine Below.alloc ?_ (by first | omega | (simp; done) | (simp; omega)) _ | with_reducible refine Below.setCell ?_ (by first | omega | (simp; done) | (simp; omega)) _ | with_reducible assumption))
          generalize (((((wr.setCell ⟨w.heap.size, 0, none⟩ (.int .i64 (ge l k).f.i)).setCell ⟨w.heap.size, 1, none⟩ (.int .i64 (ge l k).f.c)).setCell ⟨w.heap.size, 2, none⟩ (.int .i64 (ge l k).f.g)).setCell ⟨w.heap.size, 3, none⟩ (.int .i64 (ge l k).f.t)).setCell ⟨w.heap.size, 4, none⟩ (.int .i64 (ge l k).f.r)) = wz at *
          have k0 := hBz.cell 0
          have k1 := hBz.cell 1
          have k2 := hBz.cell 2
          have k3 := hBz.cell 3
          have k4 := hBz.cell 4
          refine bodyPost_ret (v := .tuple #[.agg #[.int .i64 (ge l k).f.i, .int .i64 (ge l k).f.c, .int .i64 (ge l k).f.g, .int .i64 (ge l k).f.t, .int .i64 (ge l k).f.r], .bool true]) (by simp [results, Tryz.results78, go_sem, k0, k1, k2, k3, k4]) rfl ⟨by rw [H.out] <;> rfl, hbz⟩
        · have t1 : ((ge l k).f.i == id) = false := beq_eq_false_iff_ne.2 h1
          have H : Hid (fnd (l.take (k + 1)) id = none) := by unfold Hid; rw [hf, if_neg (fun h => h1 h.2)]
          clear hf HG h0 h1
          go_wp2_with fail
          go_roundw
          case rel => exact ⟨k + 1, by omega, by go_num, H.out, hB, hb⟩
          case measure => simp [RowKit.intOf]; omega
      · have t0 : ((ge l k).k == 0) = false := beq_eq_false_iff_ne.2 h0
        have H : Hid (fnd (l.take (k + 1)) id = none) := by unfold Hid; rw [hf, if_neg (fun h => h0 h.1)]
        clear hf HG h0
        go_wp2_with fail
        go_roundw
        case rel => exact ⟨k + 1, by omega, by go_num, H.out, hB, hb⟩
        case measure => simp [RowKit.intOf]; omega
    · have hkl : k = l.length := by omega
      have H : Hid (fnd l id = none) := by unfold Hid; rw [hkl, List.take_length] at hg; exact hg
      have zf := fun o => hB.frozen o
      have z0 := hB.cell 0
      have z1 := hB.cell 1
      have z2 := hB.cell 2
      have z3 := hB.cell 3
      have z4 := hB.cell 4
      have zl := hB.lt
      clear hkl hg
      go_wp2_with fail
      clear zf z0 z1 z2 z3 z4 zl
      have hBz := (Mw.Bk.set (Mw.Bk.set (Mw.Bk.set (Mw.Bk.set (Mw.Bk.set hB 0 (.int .i64 0)) 1 (.int .i64 0)) 2 (.int .i64 0)) 3 (.int .i64 0)) 4 (.int .i64 0))
      simp only [List.setIfInBounds_toArray, List.set_cons_zero, List.set_cons_succ] at hBz
      have hbz : Below w.heap.size w (((((wr.setCell ⟨w.heap.size, 0, none⟩ (.int .i64 0)).setCell ⟨w.heap.size, 1, none⟩ (.int .i64 0)).setCell ⟨w.heap.size, 2, none⟩ (.int .i64 0)).setCell ⟨w.heap.size, 3, none⟩ (.int .i64 0)).setCell ⟨w.heap.size, 4, none⟩ (.int .i64 0)) := by (repeat (first | with_reducible exact Below.refl _ _ | with_reducible refine bl_drewN ?_ _ | with_reducible refine Below.drew ?_ | with_reducible refine bl_alloc ?_ _ | with_reducible refine Below.alloc ?_ (by first | omega | (simp; done) | (simp; omega)) _ | with_reducible refine Below.setCell ?_ (by first | omega | (simp; done) | (simp; omega)) _ | with_reducible assumption))
      generalize (((((wr.setCell ⟨w.heap.size, 0, none⟩ (.int .i64 0)).setCell ⟨w.heap.size, 1, none⟩ (.int .i64 0)).setCell ⟨w.heap.size, 2, none⟩ (.int .i64 0)).setCell ⟨w.heap.size, 3, none⟩ (.int .i64 0)).setCell ⟨w.heap.size, 4, none⟩ (.int .i64 0)) = wz at *
      have k0 := hBz.cell 0
      have k1 := hBz.cell 1
      have k2 := hBz.cell 2
      have k3 := hBz.cell 3
      have k4 := hBz.cell 4
      refine bodyPost_ret (v := .tuple #[.agg #[.int .i64 0, .int .i64 0, .int .i64 0, .int .i64 0, .int .i64 0], .bool false]) (by simp [results, Tryz.results78, go_sem, k0, k1, k2, k3, k4]) rfl ⟨by rw [H.out] <;> rfl, hbz⟩
theorem hol_step {l : List Le} {k : Nat} {c : Int} (h : k < l.length) : (l.take (k + 1)).any (hl1 l c) = ((l.take k).any (hl1 l c) || hl1 l c (ge l k)) := by rw [take_ge h]; simp
theorem hol_take {l : List Le} {k : Nat} {c : Int} (h : (l.take k).any (hl1 l c) = true) : hol l c = true := by
  unfold hol
  rw [List.any_eq_true] at h ⊢
  obtain ⟨x, hx, h1⟩ := h
  exact ⟨x, List.mem_of_mem_take hx, h1⟩
set_option maxHeartbeats 2000000 in
theorem rholds_any (l : List Le) (A : Option Addr) (c : Nat) (id : Int) (w : World) (hr : RdL w A l) (hl : l.length ≤ maxLen) : Calls Tryz.prog 102 #[.slice A l.length c, .int .i64 id] w fun e w' => e = .returned (.bool (hol l id)) ∧ Below w.heap.size w w' := by
  have HR := Lib.hid hr
  have HL := Lib.hid hl
  clear hr
  simp only [maxLen] at hl
  go_enter Tryz.func102, Tryz.ntmps102
  go_wp2_with fail
  go_loopw [5] (fun i wr => ∃ k : Nat, k ≤ l.length ∧ i = .int .i64 k ∧ (l.take k).any (hl1 l id) = false ∧ Below w.heap.size w wr) (fun i _ => l.length - (RowKit.intOf i).toNat)
  case atStart => exact ⟨0, by omega, rfl, rfl, Below.refl _ _⟩
  case round =>
    obtain ⟨k, hk, rfl, hg, hb⟩ := hrel
    by_cases hlt : k < l.length
    · have hrk := HR.out.old hb
      obtain ⟨b, off, rfl, hbl, c0, c1, c2, c3, c4, c5⟩ := le_at hrk k hlt
      have hlt' : (k : Int) < l.length := by omega
      have HS := Lib.hid (hol_step (c := id) hlt)
      rw [hg] at HS
      have HG := Lib.hid (rgone_any l (some ⟨b, off, none⟩) c (ge l k).f.i _ (hrk.alloc (.cells #[.int .i64 (ge l k).f.i, .int .i64 (ge l k).f.c, .int .i64 (ge l k).f.g, .int .i64 (ge l k).f.t, .int .i64 (ge l k).f.r] 46)) HL.out)
      clear hg hrk
      by_cases h0 : (ge l k).k = 0
      · have t0 : ((ge l k).k == 0) = true := beq_iff_eq.2 h0
        by_cases h1 : (ge l k).f.c = id
        · have t1 : ((ge l k).f.c == id) = true := beq_iff_eq.2 h1
          have HH : Hid (hl1 l id (ge l k) = !gon l (ge l k).f.i) := by unfold Hid hl1; rw [decide_eq_true ⟨h0, h1⟩]; rfl
          clear h0 h1
          go_wp2_with fail
          refine HG.out.mono ?_
          rintro e w2 ⟨rfl, hb2⟩
          have hb3 : Below w.heap.size w w2 := bl_trans (Mw.bl_alloc hb _) hb2
          clear HG hb2 hb c0 c1 c2 c3 c4 c5
          cases hz : gon l (ge l k).f.i
          · rw [hz] at HH
            have H : Hid (hol l id = true) := hol_take (k := k + 1) (by rw [HS.out, HH.out]; rfl)
            clear hz
            go_wp2_with fail
            go_ret
            exact ⟨by rw [H.out] <;> rfl, hb3⟩
          · rw [hz] at HH
            have H : Hid ((l.take (k + 1)).any (hl1 l id) = false) := by unfold Hid; rw [HS.out, HH.out]; rfl
            clear hz
            go_wp2_with fail
            go_roundw
            case rel => exact ⟨k + 1, by omega, by go_num, H.out, hb3⟩
            case measure => simp [RowKit.intOf]; omega
        · have t1 : ((ge l k).f.c == id) = false := beq_eq_false_iff_ne.2 h1
          have HH : Hid (hl1 l id (ge l k) = false) := by unfold Hid hl1; rw [decide_eq_false (fun h => h1 h.2)]; rfl
          have H : Hid ((l.take (k + 1)).any (hl1 l id) = false) := by unfold Hid; rw [HS.out, HH.out]; rfl
          clear h0 h1 HG
          go_wp2_with fail
          go_roundw
          case rel => exact ⟨k + 1, by omega, by go_num, H.out, by (repeat (first | with_reducible exact Below.refl _ _ | with_reducible refine bl_drewN ?_ _ | with_reducible refine Below.drew ?_ | with_reducible refine bl_alloc ?_ _ | with_reducible refine Below.alloc ?_ (by first | omega | (simp; done) | (simp; omega)) _ | with_reducible refine Below.setCell ?_ (by first | omega | (simp; done) | (simp; omega)) _ | with_reducible assumption))⟩
          case measure => simp [RowKit.intOf]; omega
      · have t0 : ((ge l k).k == 0) = false := beq_eq_false_iff_ne.2 h0
        have HH : Hid (hl1 l id (ge l k) = false) := by unfold Hid hl1; rw [decide_eq_false (fun h => h0 h.1)]; rfl
        have H : Hid ((l.take (k + 1)).any (hl1 l id) = false) := by unfold Hid; rw [HS.out, HH.out]; rfl
        clear h0 HG
        go_wp2_with fail
        go_roundw
        case rel => exact ⟨k + 1, by omega, by go_num, H.out, by (repeat (first | with_reducible exact Below.refl _ _ | with_reducible refine bl_drewN ?_ _ | with_reducible refine Below.drew ?_ | with_reducible refine bl_alloc ?_ _ | with_reducible refine Below.alloc ?_ (by first | omega | (simp; done) | (simp; omega)) _ | with_reducible refine Below.setCell ?_ (by first | omega | (simp; done) | (simp; omega)) _ | with_reducible assumption))⟩
        case measure => simp [RowKit.intOf]; omega
    · have hkl : k = l.length := by omega
      have H : Hid (hol l id = false) := by unfold Hid hol; rw [hkl, List.take_length] at hg; exact hg
      clear hkl hg
      go_wp2_with fail
      go_ret
      exact ⟨by rw [H.out] <;> rfl, hb⟩
end Go.Proofs.YtdikoffppjoomaaGreat.Ct
