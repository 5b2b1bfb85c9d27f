/- Walk: the statement SeatingMany. -/
import Derived.Test.YtcidpgjeddogmaaWD
import Derived.Test.YtcidpgjeddogmaaVD
import Derived.Test.YtcidpgjeddogmaaAR
import Derived.Test.YtcidpgjeddogmaaTU
import Derived.WalkKit
import Derived.WalkSpells
import Derived.WalkLawsBesides
import Derived.Deep.QuietTactic
import Derived.BigQuiet
import Derived.Deep.Draws
import Derived.Deep.AppendLies
import Derived.Laws.OwnMore
import Derived.Laws.BytesArg
import Derived.Lib.Hide
import Derived.Deep.LoopGhost
import Derived.Maps.AppendAt
namespace Go.Proofs.Ytcidpgjeddogmaa.Pl
open Go.RowKit
open Go.Proofs.Ytcidpgjeddogmaa.Mw
open Go.Proofs.Ytcidpgjeddogmaa.St
open Go.Proofs.Ytcidpgjeddogmaa.Tm (cut_any)
set_option linter.unusedVariables false
set_option linter.unusedSimpArgs false

theorem infoRoom : (Try.prog.info? 35).map (fun i => (i.zero, i.size, i.bytes)) = some (some (.agg #[.int .i64 0, .int .i64 0, .int .i64 0]), 3, 24) := by kernel_rfl
theorem infoNeed : (Try.prog.info? 37).map (fun i => (i.zero, i.size, i.bytes)) = some (some (.agg #[.int .i64 0, .int .i64 0]), 2, 16) := by kernel_rfl
theorem rml_len (r : Rm) : (rml r).length = 3 := rfl
theorem ndl_len (n : Nd) : (ndl n).length = 2 := rfl
theorem blk_news {w : World} {g : Nat} {T : TypeId} {l : List Value} (h : Bk w g T l.toArray) : ∀ (j : Nat) (u : Value), l[j]? = some u → w.cell? ((⟨g, 0, none⟩ : Addr).add j) = some u := fun j u hu => by
  have e1 : (⟨g, 0, none⟩ : Addr).add j = ⟨g, j, none⟩ := by
    unfold Addr.add
    by_cases h : j = 0
    · subst h; rfl
    · simp [h]
  rw [e1, h.cell, List.getElem?_toArray, hu]
/-- Appending a room to a row of the call's own. -/
theorem app_room {w : World} {base g : Nat} {v : Value} {xs : List Rm} {r : Rm} (hown : w.ownsRow base 35 3 v xs.length (xs.flatMap rml)) (hr : Bk w g 35 (rml r).toArray) (h1 : xs.length ≤ 10000) (hb : base ≤ w.heap.size) :
    ∃ v' w', (Builtin.append_ #[25, 25] 25 #[v, .slice (some ⟨g, 0, none⟩) 1 1]).run Try.prog w = .ok v' w' ∧ w'.ownsRow base 35 3 v' (xs ++ [r]).length ((xs ++ [r]).flatMap rml) ∧ w.grownBy w' v.ownBlock := by
  obtain ⟨i0, hi0, hz0, hz1, hz2⟩ := info_parts infoRoom
  obtain ⟨v', w', h2, h3, h4, -, -⟩ := run_append_own_at (P := Try.prog) (w := w) base 25 25 35 i0 _ 3 24 Try.underlying25 hi0 hz0 hz1 hz2 rfl (by decide) v xs.length (xs.flatMap rml) hown ⟨g, 0, none⟩ 1 1 (rml r) rfl (blk_news hr) (by simp [rml, Value.oneCell']) (by simp only [maxLen]; omega) (by omega) hb
  exact ⟨v', w', h2, by rw [List.flatMap_append, List.length_append]; simpa using h3, h4⟩
theorem app_need {w : World} {base g : Nat} {v : Value} {xs : List Nd} {r : Nd} (hown : w.ownsRow base 37 2 v xs.length (xs.flatMap ndl)) (hr : Bk w g 37 (ndl r).toArray) (h1 : xs.length ≤ 10000) (hb : base ≤ w.heap.size) :
    ∃ v' w', (Builtin.append_ #[27, 27] 27 #[v, .slice (some ⟨g, 0, none⟩) 1 1]).run Try.prog w = .ok v' w' ∧ w'.ownsRow base 37 2 v' (xs ++ [r]).length ((xs ++ [r]).flatMap ndl) ∧ w.grownBy w' v.ownBlock := by
  obtain ⟨i0, hi0, hz0, hz1, hz2⟩ := info_parts infoNeed
  obtain ⟨v', w', h2, h3, h4, -, -⟩ := run_append_own_at (P := Try.prog) (w := w) base 27 27 37 i0 _ 2 16 Try.underlying27 hi0 hz0 hz1 hz2 rfl (by decide) v xs.length (xs.flatMap ndl) hown ⟨g, 0, none⟩ 1 1 (ndl r) rfl (blk_news hr) (by simp [ndl, Value.oneCell']) (by simp only [maxLen]; omega) (by omega) hb
  exact ⟨v', w', h2, by rw [List.flatMap_append, List.length_append]; simpa using h3, h4⟩
def nds (n : Nat) : List Nd := (List.range n).map fun i : Nat => ⟨(i : Int), 0⟩
theorem nds_len (n : Nat) : (nds n).length = n := by unfold nds; simp
theorem nds_succ (n : Nat) : nds (n + 1) = nds n ++ [⟨(n : Int), 0⟩] := by unfold nds; rw [List.range_succ, List.map_append]; rfl
set_option maxHeartbeats 4000000 in
theorem many_st (a b : Int) (ha : I64 a) (hb : I64 b) (w : World) : Calls Try.prog 4 #[.int .i64 a, .int .i64 b] w fun e w' => e = .returned (.bool true) ∧ Below w.heap.size w w' := by
  have H1 := Lib.hid (cut_any a 5 (by omega) (by omega) ha)
  have H2 := Lib.hid (cut_any b 6 (by omega) (by omega) hb)
  have b1 := Int.emod_nonneg a (show (5 : Int) ≠ 0 by omega)
  have b2 := Int.emod_lt_of_pos a (show (0 : Int) < 5 by omega)
  have b3 := Int.emod_nonneg b (show (6 : Int) ≠ 0 by omega)
  have b4 := Int.emod_lt_of_pos b (show (0 : Int) < 6 by omega)
  generalize a % 5 = x at H1 b1 b2
  generalize b % 6 = y at H2 b3 b4
  obtain ⟨M, hM⟩ : ∃ M : Nat, (58 + y) = (M : Int) := ⟨(58 + y).toNat, by omega⟩
  obtain ⟨N, hN⟩ : ∃ N : Nat, (6 + x) = (N : Int) := ⟨(6 + x).toNat, by omega⟩
  have hM2 : M ≤ 64 := by omega
  have hN2 : N ≤ 10 := by omega
  have e1 : IntKind.i64.wrap (6 + x) = (N : Int) := by rw [hN]; exact IntWalk.i64_in _ (by omega)
  have e2 : IntKind.i64.wrap (58 + y) = (M : Int) := by rw [hM]; exact IntWalk.i64_in _ (by omega)
  have E2 := Lib.hid hM
  clear ha hb hM b3 b4
  go_enter Try.func4, Try.ntmps4
  go_wp2_with fail
  refine (H1.out _).mono ?_
  rintro e w1 ⟨rfl, rfl⟩
  go_wp2_with fail
  go_loopw [5, 7] (fun v i wr => ∃ j k : Nat, j + k = N ∧ i = .int .i64 k ∧ wr.ownsRow w.heap.size 35 3 v (List.replicate j (⟨1, 1, 0⟩ : Rm)).length ((List.replicate j (⟨1, 1, 0⟩ : Rm)).flatMap rml) ∧ Below w.heap.size w wr) (fun _ i _ => (intOf i).toNat)
  case atStart => exact ⟨0, N, by omega, by first | rfl | rw [hN], World.ownsRow_nil _ _ _ _, Below.refl _ _⟩
  case round =>
    obtain ⟨j, k, hjk, rfl, hown, hb⟩ := hrel
    by_cases hk : 0 < k
    · have hk' : (0 : Int) < k := by omega
      have hjl : (List.replicate j (⟨1, 1, 0⟩ : Rm)).length ≤ 10 := by simp; omega
      obtain ⟨v2, w2, hrun, hown2, hg2⟩ := app_room (r := ⟨1, 1, 0⟩) (g := wr.heap.size) (Mw.own_old hown (w' := wr.alloc (.cells #[.int .i64 1, .int .i64 1, .int .i64 0] 35)) (by (repeat (first | with_reducible exact Below.refl _ _ | with_reducible refine bl_drewN ?_ _ | with_reducible refine Below.drew ?_ | with_reducible refine bl_alloc ?_ _ | with_reducible refine Below.alloc ?_ (by first | omega | (simp; done) | (simp; omega)) _ | with_reducible refine Below.setCell ?_ (by first | omega | (simp; done) | (simp; omega)) _ | with_reducible assumption)))) (Bk.new _ _ _) (by omega) (by have := hb.size; simp; omega)
      have hb2 : Below w.heap.size w w2 := (show Below w.heap.size w (wr.alloc (.cells #[.int .i64 1, .int .i64 1, .int .i64 0] 35)) by (repeat (first | with_reducible exact Below.refl _ _ | with_reducible refine bl_drewN ?_ _ | with_reducible refine Below.drew ?_ | with_reducible refine bl_alloc ?_ _ | with_reducible refine Below.alloc ?_ (by first | omega | (simp; done) | (simp; omega)) _ | with_reducible refine Below.setCell ?_ (by first | omega | (simp; done) | (simp; omega)) _ | with_reducible assumption))).grown hg2 (by have := hb.size; simp; omega) fun q hq => (hown.lt q hq).1
      have hrep : List.replicate j (⟨1, 1, 0⟩ : Rm) ++ [⟨1, 1, 0⟩] = List.replicate (j + 1) ⟨1, 1, 0⟩ := by rw [List.replicate_succ']
      rw [hrep] at hown2
      have hw1 : IntKind.i64.wrap ((k : Int) - 1) = (k : Int) - 1 := IntWalk.i64_in _ (by omega)
      have Hjk := Lib.hid hjk
      clear hg2 hown hrep hjk hN
      go_wp2_with (at_builtin; refine wpList_append_run rfl (.tmp 16) (.tmp 18) 25 rfl _ (.slice (some ⟨wr.heap.size, 0, none⟩) 1 1) rfl rfl v2 w2 (by exact hrun) ?_)
      go_roundw
      case rel => exact ⟨j + 1, k - 1, by have := Hjk.out; omega, by rw [show ((k - 1 : Nat) : Int) = (k : Int) - 1 by omega], hown2, hb2⟩
      case measure => simp [intOf]; omega
    · obtain rfl : k = 0 := by omega
      obtain rfl : j = N := by omega
      clear hjk hk hN
      rw [show (((0 : Nat)) : Int) = 0 from rfl]
      go_wp2_with fail
      generalize wr = W at hown hb ⊢
      go_loopw [6, 8] (fun v i wn => ∃ j2 : Nat, j2 ≤ M ∧ i = .int .i64 j2 ∧ wn.ownsRow W.heap.size 37 2 v (nds j2).length ((nds j2).flatMap ndl) ∧ Below W.heap.size W wn) (fun _ i _ => M - (intOf i).toNat)
      case atStart => exact ⟨0, by omega, rfl, World.ownsRow_nil _ _ _ _, Below.refl _ _⟩
      case round =>
        obtain ⟨k, hkM, rfl, hon, hbn⟩ := hrel
        by_cases hk : k < M
        · have hk' : (k : Int) < M := by omega
          have hk0 : (0 : Int) ≤ k := by omega
          obtain ⟨v2, w2, hrun, hown2, hg2⟩ := app_need (r := ⟨(k : Int), 0⟩) (g := wr.heap.size) (Mw.own_old hon (w' := wr.alloc (.cells #[.int .i64 (k : Int), .int .i64 0] 37)) (by (repeat (first | with_reducible exact Below.refl _ _ | with_reducible refine bl_drewN ?_ _ | with_reducible refine Below.drew ?_ | with_reducible refine bl_alloc ?_ _ | with_reducible refine Below.alloc ?_ (by first | omega | (simp; done) | (simp; omega)) _ | with_reducible refine Below.setCell ?_ (by first | omega | (simp; done) | (simp; omega)) _ | with_reducible assumption)))) (Bk.new _ _ _) (by rw [nds_len]; omega) (by have := hbn.size; simp; omega)
          have hb2 : Below W.heap.size W w2 := (show Below W.heap.size W (wr.alloc (.cells #[.int .i64 (k : Int), .int .i64 0] 37)) by (repeat (first | with_reducible exact Below.refl _ _ | with_reducible refine bl_drewN ?_ _ | with_reducible refine Below.drew ?_ | with_reducible refine bl_alloc ?_ _ | with_reducible refine Below.alloc ?_ (by first | omega | (simp; done) | (simp; omega)) _ | with_reducible refine Below.setCell ?_ (by first | omega | (simp; done) | (simp; omega)) _ | with_reducible assumption))).grown hg2 (by have := hbn.size; simp; omega) fun q hq => (hon.lt q hq).1
          rw [← nds_succ] at hown2
          clear hg2 hon
          go_wp2_with fail
          refine (H2.out _).mono ?_
          rintro e w3 ⟨rfl, rfl⟩
          go_wp2_with (at_builtin; refine wpList_append_run rfl (.tmp 27) (.tmp 30) 27 rfl _ (.slice (some ⟨wr.heap.size, 0, none⟩) 1 1) rfl rfl v2 w2 (by exact hrun) ?_)
          go_roundw
          case rel => exact ⟨k + 1, by omega, by go_num, hown2, hb2⟩
          case measure => simp [intOf]; omega
        · obtain rfl : k = M := by omega
          obtain ⟨A1, c1, hv1, -, hr1, -⟩ := own_rows rml_len (by omega) hown
          obtain ⟨A2, c2, hv2, -, hr2, -⟩ := own_rows ndl_len (by omega) hon
          have h1 : (List.replicate j (⟨1, 1, 0⟩ : Rm)).length ≤ maxLen := by simp only [maxLen, List.length_replicate]; omega
          have h2 : (nds k).length ≤ maxLen := by simp only [maxLen, nds_len]; omega
          have HP := Lib.hid (check_any (List.replicate j ⟨1, 1, 0⟩) (nds k) 2 A1 A2 c1 c2 wr h1 h2 (hr1.old hbn) hr2)
          have HQ : Hid (∀ V, Below wr.heap.size wr V → Calls Try.prog 19 #[.slice A1 (List.replicate j (⟨1, 1, 0⟩ : Rm)).length c1, .slice A2 (nds k).length c2, .int .i64 2] V fun e w' => e = .returned (.int .i64 (chk (List.replicate j ⟨1, 1, 0⟩) (nds k) 2)) ∧ Below V.heap.size V w') := fun V hV => rcheck_any (List.replicate j ⟨1, 1, 0⟩) (nds k) 2 A1 A2 c1 c2 V h1 h2 ((hr1.old hbn).old hV) (hr2.old hV)
          have hbw := bl_trans hb hbn
          simp only [List.length_replicate, nds_len] at HP HQ hv1 hv2
          clear hown hon hr1 hr2 h1 h2 hb hbn
          subst hv1 hv2
          generalize chk (List.replicate j ⟨1, 1, 0⟩) (nds k) 2 = r at HP HQ
          go_wp2_with fail
          refine (H2.out _).mono ?_
          rintro e w3 ⟨rfl, rfl⟩
          go_wp2_with fail
          refine HP.out.mono ?_
          rintro e w4 ⟨rfl, hb4⟩
          go_wp2_with fail
          refine (HQ.out _ hb4).mono ?_
          rintro e w5 ⟨rfl, hb5⟩
          have hb6 := bl_trans (bl_trans hbw hb4) hb5
          go_wp2_with fail
          refine (awake_any _).mono ?_
          rintro e w6 ⟨rfl, hb7⟩
          go_wp2_with fail
          go_ret
          exact ⟨rfl, bl_trans hb6 hb7⟩
end Go.Proofs.Ytcidpgjeddogmaa.Pl
