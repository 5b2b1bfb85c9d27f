/- Walk: slices.Repeat of one number. -/
import Derived.Test.YtcidpgjeddogmaaVS
import Derived.Test.YtcidpgjeddogmaaSrt
import Derived.Test.YtcidpgjeddogmaaAM
import Derived.WalkKit
import Derived.WalkSpells
import Derived.WalkLawsBesides
import Derived.Deep.QuietTactic
import Derived.BigQuiet
import Derived.Deep.Draws
import Derived.Deep.AppendLies
import Derived.Laws.OwnMore
import Derived.Laws.BytesArg
import Derived.Lib.Hide
import Derived.Deep.LoopGhost
import Derived.Laws.CopyOwn
import Derived.Deep.RegionLaw
import Derived.StillTailTactics
import Derived.Laws.MakeOwn
namespace Go.Proofs.Ytcidpgjeddogmaa.Pl
open Go.RowKit
open Go.Proofs.Ytcidpgjeddogmaa.Mw
open Go.Proofs.Ytcidpgjeddogmaa.St
set_option linter.unusedVariables false
set_option linter.unusedSimpArgs false

theorem made_rng (n : Nat) (z : Value) (hz : z.cells = #[z]) : madeCells z.cells (n * 1) = rng n fun _ => z := by
  rw [hz, Nat.mul_one]
  apply Array.ext
  · simp [madeCells, rng_size]
  · intro i h1 h2
    have h3 := rng_at (f := fun _ => z) (show i < n by rw [rng_size] at h2; exact h2)
    rw [Array.getElem?_eq_getElem h2] at h3
    rw [Option.some.inj h3]
    simp [madeCells, Nat.mod_one]
theorem make_ints (n : Nat) (hn : n ≤ 1000) (W : World) : ∃ w2, (Instr.makeSlice 22 (.int .i64 (n : Int)) (.int .i64 (n : Int))).run Try.prog W = .ok (.slice (some ⟨W.heap.size, 0, none⟩) n n) w2 ∧ Below W.heap.size W w2 ∧ Bk w2 W.heap.size 3 (rng n fun _ => .int .i64 0) := by
  obtain ⟨i0, hi, hz0, hz1, hz2⟩ := info_parts infoInt
  have := run_make (P := Try.prog) W 22 3 i0 (.int .i64 0) Try.underlying22 hi hz0 .i64 .i64 (n : Int) (n : Int) (by omega) (Int.le_refl _) (by rw [hz2]; omega) (by omega)
  rw [hz1, Int.toNat_natCast, made_rng n _ rfl] at this
  exact ⟨_, this, bl_alloc (Below.refl _ _) _, Bk.new' rfl⟩
theorem make_sls (n : Nat) (hn : n ≤ 1000) (W : World) : ∃ w2, (Instr.makeSlice 73 (.int .i64 (n : Int)) (.int .i64 (n : Int))).run Try.prog W = .ok (.slice (some ⟨W.heap.size, 0, none⟩) n n) w2 ∧ Below W.heap.size W w2 ∧ Bk w2 W.heap.size 22 (rng n fun _ => .slice none 0 0) := by
  obtain ⟨i0, hi, hz0, hz1, hz2⟩ := info_parts infoSl
  have := run_make (P := Try.prog) W 73 22 i0 (.slice none 0 0) Try.underlying73 hi hz0 .i64 .i64 (n : Int) (n : Int) (by omega) (Int.le_refl _) (by rw [hz2]; omega) (by omega)
  rw [hz1, Int.toNat_natCast, made_rng n _ rfl] at this
  exact ⟨_, this, bl_alloc (Below.refl _ _) _, Bk.new' rfl⟩
theorem make_bools (n : Nat) (hn : n ≤ 1000) (W : World) : ∃ w2, (Instr.makeSlice 74 (.int .i64 (n : Int)) (.int .i64 (n : Int))).run Try.prog W = .ok (.slice (some ⟨W.heap.size, 0, none⟩) n n) w2 ∧ Below W.heap.size W w2 ∧ Bk w2 W.heap.size 4 (rng n fun _ => .bool false) := by
  obtain ⟨i0, hi, hz0, hz1, hz2⟩ := info_parts infoBool
  have := run_make (P := Try.prog) W 74 4 i0 (.bool false) Try.underlying74 hi hz0 .i64 .i64 (n : Int) (n : Int) (by omega) (Int.le_refl _) (by rw [hz2]; omega) (by omega)
  rw [hz1, Int.toNat_natCast, made_rng n _ rfl] at this
  exact ⟨_, this, bl_alloc (Below.refl _ _) _, Bk.new' rfl⟩
/-- The first m numbers are x, the others nought. -/
def fil (x : Int) (m j : Nat) : Value := .int .i64 (if j < m then x else 0)
theorem splice_fil (n : Nat) (x : Int) (m c : Nat) (h : m + c ≤ n) : Go.splice ((List.range n).map (fil x m)) m (List.replicate c (.int .i64 x)) = (List.range n).map (fil x (m + c)) := by
  apply List.ext_getElem?
  intro i
  unfold Go.splice
  rw [List.length_replicate, List.getElem?_append]
  have hl : (((List.range n).map (fil x m)).take m).length = m := by simp; omega
  rw [hl]
  by_cases h1 : i < m
  · rw [if_pos h1, List.getElem?_take_of_lt h1, List.getElem?_map, List.getElem?_map, List.getElem?_range (by omega)]
    show some (Value.int .i64 (if i < m then x else 0)) = some (Value.int .i64 (if i < m + c then x else 0))
    rw [if_pos h1, if_pos (by omega)]
  · rw [if_neg h1, List.getElem?_append, List.length_replicate]
    by_cases h2 : i - m < c
    · rw [if_pos h2, List.getElem?_replicate, if_pos h2, List.getElem?_map, List.getElem?_range (by omega)]
      show _ = some (Value.int .i64 (if i < m + c then x else 0))
      rw [if_pos (by omega)]
    · rw [if_neg h2, List.getElem?_drop, show m + c + (i - m - c) = i by omega]
      by_cases h3 : i < n
      · rw [List.getElem?_map, List.getElem?_map, List.getElem?_range h3]
        show some (Value.int .i64 (if i < m then x else 0)) = some (Value.int .i64 (if i < m + c then x else 0))
        rw [if_neg h1, if_neg (by omega)]
      · rw [List.getElem?_eq_none (by simpa using h3), List.getElem?_eq_none (by simpa using h3)]
theorem news_fil {w : World} {g n m c : Nat} {T : TypeId} {x : Int} (h : Bk w g T (rng n (fil x m))) (hc : c ≤ m) (hm : m ≤ n) : ∀ (j : Nat) (v : Value), (List.replicate c (Value.int .i64 x))[j]? = some v → w.cell? ((⟨g, 0, none⟩ : Addr).add j) = some v := fun j v hv => by
  rw [List.getElem?_replicate] at hv
  split at hv
  · rename_i hj
    cases hv
    have e1 : (⟨g, 0, none⟩ : Addr).add j = ⟨g, j, none⟩ := by
      unfold Addr.add
      by_cases h : j = 0
      · subst h; rfl
      · simp [h]
    rw [e1, h.cell, rng_at (by omega)]
    show some (Value.int .i64 (if j < m then x else 0)) = _
    rw [if_pos (by omega)]
  · cases hv
theorem ones_rep (c : Nat) (x : Int) : ∀ v ∈ List.replicate c (Value.int .i64 x), v.oneCell' = true := fun v hv => by
  rw [(List.mem_replicate.1 hv).2]; rfl
theorem copy_run {w : World} {g n m d : Nat} {x : Int} (hB : Bk w g 3 (rng n (fil x m))) (h1 : d ≤ m) (h2 : m + d ≤ n) (hd : d = Nat.min m (n - m)) (h0 : 0 < d) :
    ∃ w4, (Builtin.copy_ #[22, 22] 3 #[.slice (some ⟨g, m, none⟩) (n - m) (n - m), .slice (some ⟨g, 0, none⟩) m n]).run Try.prog w.drew = .ok (.int .i64 (d : Int)) w4 ∧ Bk w4 g 3 (rng n (fil x (m + d))) ∧ Below g w w4 := by
  have hl : (List.replicate d (Value.int .i64 x)).length = d := List.length_replicate
  have h := run_copy_row (P := Try.prog) w.drew 22 22 3 3 g m (n - m) (n - m) ⟨g, 0, none⟩ m n (rng n (fil x m)) 3 (List.replicate d (.int .i64 x)) Try.underlying22 (by kernel_rfl) hB.drew (by rw [hl]; exact hd) (news_fil hB.drew h1 (by omega)) (by rw [hl, rng_size]; exact h2) (ones_rep _ _)
  rw [hl] at h
  refine ⟨_, h, ?_, Below.trans (Below.drew (Below.refl _ _)) (below_setRow (Below.refl _ _) (Nat.le_refl _) _)⟩
  have e : (rng n (fil x m)).toList.take m ++ List.replicate d (.int .i64 x) ++ (rng n (fil x m)).toList.drop (m + d) = (List.range n).map (fil x (m + d)) := by
    rw [← splice_fil n x m d h2]
    unfold Go.splice rng
    rw [hl, List.append_assoc]
  rw [e]
  exact setRow_heap w.drew g _ _ 3 _ hB.drew
set_option maxHeartbeats 1000000 in
set_option maxRecDepth 100000 in
theorem repeat_any (n : Nat) (hn : n ≤ 60) (x : Int) (g : Nat) (w : World) (hg : Bk w g 3 #[.int .i64 x]) :
    Calls Try.prog 50 #[.slice (some ⟨g, 0, none⟩) 1 1, .int .i64 (n : Int)] w fun e w' => e = .returned (.slice (some ⟨w.heap.size, 0, none⟩) n n) ∧ Bk w' w.heap.size 3 (rng n fun _ => .int .i64 x) ∧ Below w.heap.size w w' := by
  have HM : Hid (∀ W, Calls Try.prog 54 #[.int .u64 1, .int .u64 (n : Int)] W fun e w' => e = .returned (.tuple #[.int .u64 0, .int .u64 (n : Int)]) ∧ W = w') := fun W => by
    have h := Try.bits_Mul 1 n (by omega) (by omega) W
    have e1 : (((1 * n / 18446744073709551616 : Nat) : Int)) = 0 := by omega
    have e2 : (((1 * n % 18446744073709551616 : Nat) : Int)) = n := by omega
    rw [e1, e2] at h
    exact h.mono fun _ _ ⟨h1, h2⟩ => ⟨h1, h2.symm⟩
  have n0 : (0 : Int) ≤ n := by omega
  have n1 : (n : Int) ≤ 60 := by omega
  go_enter Try.func50, Try.ntmps50
  go_wp2_with fail
  refine (HM.out _).mono ?_
  rintro e w1 ⟨rfl, rfl⟩
  clear HM
  have k1 : decide ((9223372036854775807 : Int) < n) = false := decide_eq_false (by omega)
  obtain ⟨w2, hmk, hb2, hB2⟩ := make_ints n (by omega) w
  have hg2 := hg.old hb2
  have hglt := hg.lt
  have hB2' : Bk w2 w.heap.size 3 (rng n (fil x 0)) := by
    rw [rng_congr (g := fun _ => .int .i64 0) fun i _ => by unfold fil; rw [if_neg (by omega)]]; exact hB2
  obtain ⟨c, hc⟩ : ∃ c, c = Nat.min 1 n := ⟨_, rfl⟩
  have HC := Lib.hid hc
  have hc1 : c ≤ 1 := by subst hc; exact Nat.min_le_left _ _
  have hc2 : c ≤ n := by subst hc; exact Nat.min_le_right _ _
  have hc3 : 0 < c ∨ n = 0 := by
    rcases Nat.eq_zero_or_pos n with h | h
    · exact .inr h
    · exact .inl (by subst hc; exact Nat.lt_min.2 ⟨Nat.zero_lt_one, h⟩)
  clear hB2 hc
  go_wp2_with (refine wpList_copy_splice (o := ⟨some 33, _, _, _, _, _⟩) rfl (.tmp 31) (.tmp 32) 22 22 rfl 3 Try.underlying22 (by kernel_rfl) (some ⟨w.heap.size, 0, none⟩) (some ⟨g, 0, none⟩) n n 1 1 rfl rfl w.heap.size 0 ((List.range n).map (fil x 0)) 3 hB2' (List.replicate c (.int .i64 x)) (by rw [List.length_replicate]; exact HC.out) ?_ (by simp; omega) (ones_rep _ _) w.heap.size w hb2 (Nat.le_refl _) ?_)
  · intro h0 j v hv
    rw [List.getElem?_replicate] at hv
    split at hv
    · cases hv
      obtain rfl : j = 0 := by omega
      exact hg2.cell 0
    · cases hv
  intro w3 hB3 hb3
  rw [splice_fil n x 0 c (by omega), Nat.zero_add] at hB3
  have hB3' : Bk w3 w.heap.size 3 (rng n (fil x c)) := hB3.out
  clear hB3 hB2' hmk hb2 hg2
  go_wp2_with fail
  go_loopw [8] (fun v wr => ∃ m : Nat, m ≤ n ∧ (0 < m ∨ n = 0) ∧ v = .int .i64 m ∧ Bk wr w.heap.size 3 (rng n (fil x m)) ∧ Below w.heap.size w wr) (fun v _ => n - (intOf v).toNat)
  case atStart => exact ⟨c, hc2, hc3, by simp, hB3', hb3⟩
  case round =>
    clear hB3' hb3
    obtain ⟨m, hm, hm0, rfl, hB, hb⟩ := hrel
    by_cases hlt : m < n
    · have hm' : (m : Int) < n := by omega
      have hm1 : (0 : Int) ≤ m := by omega
      have hml := hB.lt
      have HB := Lib.hid hB
      obtain ⟨d, hd⟩ : ∃ d, d = Nat.min m (n - m) := ⟨_, rfl⟩
      have HD := Lib.hid hd
      have hd1 : d ≤ m := by subst hd; exact Nat.min_le_left _ _
      have hd2 : m + d ≤ n := by have : d ≤ n - m := by subst hd; exact Nat.min_le_right _ _
                                 omega
      have hd3 : 0 < d := by
        subst hd
        exact Nat.lt_min.2 ⟨by omega, by omega⟩
      have hs1 : IntKind.i64.wrap ((m : Int) + (d : Int)) = (m : Int) + d := IntWalk.i64_in _ (by omega)
      have Hs1 := Lib.hid hs1
      obtain ⟨w4, hrun, hB4', hb4'⟩ := copy_run hB hd1 hd2 HD.out hd3
      have hb4 : Below w.heap.size w w4 := hb.trans hb4'
      have hne : ¬ n = m := by omega
      clear hm0 hB hd hs1 hb4'
      go_wp2_with fail
      refine Am.wp_region_M (S := fun _ => True) [] (by kernel_rfl) trivial (fun hS => ?_)
      (refine Am.wpAnyM_take (i := 0) (v := ?_) rfl (by kernel_rfl) (by kernel_rfl) (by kernel_rfl) (by kernel_rfl) (by kernel_rfl) (fun _ _ _ h => h) (Or.inl ⟨by rfl, ?_⟩) hS ?_; rotate_left 1; focus (intro w' hSw; (try dsimp only at hSw); go_simp; try (with_reducible rfl)); try simp only [Act.put, List.setIfInBounds_toArray, List.set_cons_zero, List.set_cons_succ])
      (refine Am.wpAnyM_take (i := 1) (v := ?_) rfl (by kernel_rfl) (by kernel_rfl) (by kernel_rfl) (by kernel_rfl) (by kernel_rfl) (fun _ _ _ h => h) (Or.inl ⟨by rfl, ?_⟩) hS ?_; rotate_left 1; focus (intro w' hSw; (try dsimp only at hSw); go_simp; try (with_reducible rfl)); try simp only [Act.put, List.setIfInBounds_toArray, List.set_cons_zero, List.set_cons_succ])
      (refine Am.wpAnyM_take (i := 2) (v := ?_) rfl (by kernel_rfl) (by kernel_rfl) (by kernel_rfl) (by kernel_rfl) (by kernel_rfl) (fun _ _ _ h => h) (Or.inl ⟨by rfl, ?_⟩) hS ?_; rotate_left 1; focus (intro w' hSw; (try dsimp only at hSw); go_simp; try (with_reducible rfl)); try simp only [Act.put, List.setIfInBounds_toArray, List.set_cons_zero, List.set_cons_succ])
      (refine Am.wpAnyM_take (i := 3) (v := ?_) rfl (by kernel_rfl) (by kernel_rfl) (by kernel_rfl) (by kernel_rfl) (by kernel_rfl) (fun _ _ _ h => h) (Or.inl ⟨by rfl, ?_⟩) hS ?_; rotate_left 1; focus (intro w' hSw; (try dsimp only at hSw); go_simp; try (with_reducible rfl)); try simp only [Act.put, List.setIfInBounds_toArray, List.set_cons_zero, List.set_cons_succ])
      (refine Am.wpAnyM_take (i := 4) (v := ?_) rfl (by kernel_rfl) (by kernel_rfl) (by kernel_rfl) (by kernel_rfl) (by kernel_rfl) (fun _ _ _ h => h) (Or.inl ⟨by rfl, ?_⟩) hS ?_; rotate_left 1; focus (intro w' hSw; (try dsimp only at hSw); go_simp; try (with_reducible rfl)); try simp only [Act.put, List.setIfInBounds_toArray, List.set_cons_zero, List.set_cons_succ])
      (refine Am.wpAnyM_take (i := 5) (v := ?_) rfl (by kernel_rfl) (by kernel_rfl) (by kernel_rfl) (by kernel_rfl) (by kernel_rfl) (fun _ _ _ h => h) (Or.inl ⟨by rfl, ?_⟩) hS ?_; rotate_left 1; focus (intro w' hSw; (try dsimp only at hSw); go_simp; try (with_reducible rfl)); try simp only [Act.put, List.setIfInBounds_toArray, List.set_cons_zero, List.set_cons_succ])
      (refine Am.wpAnyM_take (i := 6) (v := ?_) rfl (by kernel_rfl) (by kernel_rfl) (by kernel_rfl) (by kernel_rfl) (by kernel_rfl) (fun _ _ _ h => h) (Or.inl ⟨by rfl, ?_⟩) hS ?_; rotate_left 1; focus (intro w' hSw; (try dsimp only at hSw); go_simp; try (with_reducible rfl)); try simp only [Act.put, List.setIfInBounds_toArray, List.set_cons_zero, List.set_cons_succ])
      refine Am.wpAnyM_one (i := 7) (by kernel_rfl) (by exact rfl) ?_
      intro K hK
      go_simp
      refine hK.out _ _ trivial (fun hS => ?_)
      clear hK K
      clear hrun
      (refine Am.wpAnyM_take (i := 8) (v := ?_) rfl (by kernel_rfl) (by kernel_rfl) (by kernel_rfl) (by kernel_rfl) (by kernel_rfl) (fun _ _ _ h => h) (Or.inl ⟨by rfl, ?_⟩) hS ?_; rotate_left 1; focus (intro w' hSw; (try dsimp only at hSw); go_simp; try (with_reducible rfl)); try simp only [Act.put, List.setIfInBounds_toArray, List.set_cons_zero, List.set_cons_succ])
      (refine Am.wpAnyM_take (i := 9) (v := ?_) rfl (by kernel_rfl) (by kernel_rfl) (by kernel_rfl) (by kernel_rfl) (by kernel_rfl) (fun _ _ _ h => h) (Or.inl ⟨by rfl, ?_⟩) hS ?_; rotate_left 1; focus (intro w' hSw; (try dsimp only at hSw); go_simp; try (with_reducible rfl)); try simp only [Act.put, List.setIfInBounds_toArray, List.set_cons_zero, List.set_cons_succ])
      refine Am.wpAnyM_done (by kernel_rfl) ?_ _
      go_wp2_with fail
      simp only [Act.put, List.setIfInBounds_toArray, List.set_cons_zero, List.set_cons_succ]
      go_roundw
      case rel =>
        (repeat apply Exists.intro)
        exact ⟨⟨m + d, hd2, .inl (by omega), by simp; exact Hs1.out, hB4', hb4⟩, rfl⟩
      case measure => simp [intOf, Hs1.out]; omega
    · obtain rfl : m = n := by omega
      go_wp2_with fail
      go_ret
      refine ⟨rfl, ?_, hb⟩
      rw [rng_congr (g := fil x m) fun i hi => by unfold fil; rw [if_pos hi]]; exact hB
end Go.Proofs.Ytcidpgjeddogmaa.Pl
