/- Walks: needs off the tape; a sorted list off the tape. -/
import Derived.Test.YtcidpgjeddogmaaWH
import Derived.WalkKit
import Derived.WalkSpells
import Derived.WalkLawsBesides
import Derived.Deep.QuietTactic
import Derived.BigQuiet
import Derived.Deep.Draws
import Derived.Deep.AppendLies
import Derived.Laws.OwnMore
import Derived.Laws.BytesArg
import Derived.Lib.Hide
import Derived.Deep.LoopGhost
namespace Go.Proofs.Ytcidpgjeddogmaa.Pl
open Go.RowKit
open Go.Proofs.Ytcidpgjeddogmaa.Mw
open Go.Proofs.Ytcidpgjeddogmaa.St
open Go.Proofs.Ytcidpgjeddogmaa.Tm (cut_any Tp TI TB next_any range_any one_any pick_any pickl)
set_option linter.unusedVariables false
set_option linter.unusedSimpArgs false

/-- Needs of ascending candidates. -/
structure GN (l : List Nd) (m : Int) : Prop where
  lo : 0 ≤ m
  hi : m ≤ 3 * l.length
  ok : ∀ i, i < l.length → ndB (ge l i) = true ∧ dpB l i = true
  le : ∀ i, i < l.length → (ge l i).c ≤ m
theorem GN.nil : GN [] 0 := ⟨by omega, by simp, fun i hi => absurd hi (by simp), fun i hi => absurd hi (by simp)⟩
theorem GN.add {l : List Nd} {m x c : Int} (h : GN l m) (hx : 1 ≤ x ∧ x ≤ 3) (hl : l.length ≤ 7) (hc : c ∈ ([0, 0, 0, 2, 4, 1, 8, 3] : List Int)) : GN (l ++ [⟨m + x, c⟩]) (m + x) := by
  have h1 := h.lo
  have h2 := h.hi
  have hc2 : 0 ≤ c ∧ c ≤ 63 := by
    simp at hc
    omega
  have hlast : ge (l ++ [(⟨m + x, c⟩ : Nd)]) l.length = ⟨m + x, c⟩ := ge_snoc l _
  refine ⟨by omega, by simp; omega, fun i hi => ?_, fun i hi => ?_⟩
  · simp at hi
    by_cases e : i = l.length
    · subst e
      rw [hlast]
      refine ⟨ndB_y ((ins_iff _ _ _).2 ⟨by show 0 ≤ m + x; omega, by show m + x ≤ 9999; omega⟩) ((ins_iff _ _ _).2 hc2), ?_⟩
      rcases Nat.eq_zero_or_pos l.length with h0 | h0
      · rw [h0]; rfl
      · obtain ⟨j, hj⟩ : ∃ j, l.length = j + 1 := ⟨l.length - 1, by omega⟩
        have h3 := h.le j (by omega)
        have h4 : ge (l ++ [(⟨m + x, c⟩ : Nd)]) (j + 1) = ⟨m + x, c⟩ := by rw [← hj]; exact hlast
        rw [hj]
        refine dp_y ?_
        rw [h4, ge_left _ _ _ (by omega)]
        show (ge l j).c < m + x
        omega
    · have hi2 : i < l.length := by omega
      rw [ge_left _ _ _ hi2]
      refine ⟨(h.ok i hi2).1, ?_⟩
      cases i with
      | zero => rfl
      | succ i =>
        have h5 := (h.ok (i + 1) hi2).2
        unfold dpB at h5 ⊢
        rw [Nat.add_sub_cancel] at h5 ⊢
        rw [ge_left _ _ _ (by omega), ge_left _ _ _ (by omega)]
        exact h5
  · simp at hi
    by_cases e : i = l.length
    · subst e; rw [hlast]; exact Int.le_refl _
    · have := h.le i (by omega)
      rw [ge_left _ _ _ (by omega)]; omega
/-- A list of needs in new memory; the tape alone has turned. -/
def TNd (n : Int) (tp : Nat) (w : World) (e : Ending) (w' : World) : Prop := ∃ (l : List Nd) (A : Option Addr) (c : Nat), e = .returned (.slice A l.length c) ∧ l.length ≤ 8 ∧ l.length ≤ c ∧ (n = 0 → l.length ≤ 7 ∧ ∀ i, i < l.length → ndB (ge l i) = true ∧ dpB l i = true) ∧ RdNd w' A l ∧ (∀ a, A = some a → w.heap.size ≤ a.block) ∧ Tp w' tp ∧ w.grownBy w' (some tp)
set_option maxHeartbeats 4000000 in
theorem needs_any (tp : Nat) (n : Int) (w : World) (ht : Tp w tp) (hn : n = 0 ∨ n = 3 ∨ n = 12) : Calls Try.prog 16 #[.pointer (some ⟨tp, 0, none⟩), .int .i64 n] w (TNd n tp w) := by
  have h0 := RT.new (T := 37) (sz := 2) w ht
  go_enter Try.func16, Try.ntmps16
  go_wp2_with fail
  refine (next_any tp 8 w ht (by omega) (by omega)).mono ?_
  rintro e w1 ⟨x, ⟨x0, x1⟩, rfl, ht1, hg1⟩
  have h1 := h0.turn ht1 hg1
  obtain ⟨K, rfl⟩ := Int.eq_ofNat_of_zero_le x0
  have hK : K ≤ 7 := by omega
  clear h0 ht1 hg1 x0 x1
  go_wp2_with fail
  go_loopw [5, 6, 7] (fun v y i wr => ∃ (k : Nat) (l : List Nd) (m : Int), i = .int .i64 k ∧ y = .int .i64 m ∧ l.length + k = K ∧ GN l m ∧ RT 37 2 w tp wr v l.length (l.flatMap ndl)) (fun _ _ i _ => (intOf i).toNat)
  case atStart => exact ⟨K, [], 0, rfl, rfl, by simp, GN.nil, h1⟩
  case round =>
    clear h1
    obtain ⟨k, l, m, rfl, rfl, hlk, hgood, hR⟩ := hrel
    have Hlk := Lib.hid hlk
    have hl7 : l.length ≤ 7 := by omega
    have hk7 : k ≤ 7 := by omega
    have m0 := hgood.lo
    have m1 := hgood.hi
    have m2 : m ≤ 21 := by omega
    clear hlk m1
    by_cases hk : 0 < k
    · have hk' : (0 : Int) < k := by omega
      have hw1 : IntKind.i64.wrap ((k : Int) - 1) = (k : Int) - 1 := IntWalk.i64_in _ (by omega)
      go_wp2_with fail
      refine (range_any tp 1 3 _ hR.tape (by omega) (by omega) (by omega)).mono ?_
      rintro e w2 ⟨a, ⟨a0, a1⟩, rfl, ht2, hg2⟩
      have hR2 := hR.turn ht2 hg2
      clear hR ht2 hg2
      go_wp2_with fail
      refine (pickl tp [0, 0, 0, 2, 4, 1, 8, 3] 8 w2 hR2.tape _ 3 rfl (by decide) (by decide)).mono ?_
      rintro e w3 ⟨c, hc, rfl, ht3, hg3⟩
      have hR3 := (hR2.alloc (.cells #[.int .i64 0, .int .i64 0, .int .i64 0, .int .i64 2, .int .i64 4, .int .i64 1, .int .i64 8, .int .i64 3] 3)).turn ht3 hg3
      have HG := Lib.hid (hgood.add ⟨a0, a1⟩ hl7 hc)
      clear hR2 ht3 hg3 hc
      have hR4 := hR3.alloc (.cells #[.int .i64 (m + a), .int .i64 c] 37)
      obtain ⟨v2, w5, hrun, hown2, hg5⟩ := app_need (r := ⟨m + a, c⟩) (g := w3.heap.size) hR4.own (Bk.new _ _ _) (by omega) hR4.gb.size
      have hR5 := hR4.add hown2 hg5
      clear hR4 hown2 hg5 hR3
      go_wp2_with (at_builtin; refine wpList_append_run rfl (.tmp 18) (.tmp 24) 27 rfl _ (.slice (some ⟨w3.heap.size, 0, none⟩) 1 1) rfl rfl v2 w5 (by exact hrun) ?_)
      go_roundw
      case rel => exact ⟨k - 1, l ++ [⟨m + a, c⟩], m + a, by rw [show ((k - 1 : Nat) : Int) = (k : Int) - 1 by omega], rfl, by have := Hlk.out; simp; omega, HG.out, hR5⟩
      case measure => simp [intOf]; omega
    · obtain rfl : k = 0 := by omega
      by_cases hn0 : n = 0
      · have t0 : decide ((0 : Int) < n) = false := decide_eq_false (by omega)
        obtain ⟨A, c, hv, hlc, hrd, ha⟩ := own_rows ndl_len (by omega) hR.own
        have HV := Lib.hid hv
        have ht := hR.tape
        have hg := hR.gb
        clear hn0 hn hv hR
        go_wp2_with fail
        go_ret
        exact ⟨l, A, c, by rw [HV.out]; rfl, by omega, hlc, fun _ => ⟨hl7, hgood.ok⟩, hrd, fun a h => (ha a h).1, ht, hg⟩
      · have t0 : decide ((0 : Int) < n) = true := decide_eq_true (by omega)
        have n1 : 1 ≤ n := by omega
        have n2 : n ≤ 12 := by omega
        have Hn0 := Lib.hid hn0
        clear hn hn0
        go_wp2_with fail
        refine (one_any tp n _ hR.tape (by omega) (by omega)).mono ?_
        rintro e w2 ⟨bx, rfl, ht2, hg2⟩
        have hR2 := hR.turn ht2 hg2
        clear hR ht2 hg2
        cases bx
        · obtain ⟨A, c, hv, hlc, hrd, ha⟩ := own_rows ndl_len (by omega) hR2.own
          have HV := Lib.hid hv
          have ht := hR2.tape
          have hg := hR2.gb
          clear hv hR2
          go_wp2_with fail
          go_ret
          exact ⟨l, A, c, by rw [HV.out]; rfl, by omega, hlc, fun h => absurd h Hn0.out, hrd, fun a h => (ha a h).1, ht, hg⟩
        · go_wp2_with fail
          refine (pickl tp [0, m, 9999, 10000, -1] 5 w2 hR2.tape _ 3 rfl (by simp) (by simp)).mono ?_
          rintro e w3 ⟨a, ha, rfl, ht3, hg3⟩
          have hR3 := (hR2.alloc (.cells #[.int .i64 0, .int .i64 m, .int .i64 9999, .int .i64 10000, .int .i64 (-1)] 3)).turn ht3 hg3
          clear hR2 ht3 hg3 ha
          go_wp2_with fail
          refine (pickl tp [0, 63, 64, -1] 4 w3 hR3.tape _ 3 rfl (by decide) (by decide)).mono ?_
          rintro e w5 ⟨c, hc, rfl, ht5, hg5⟩
          have hR5 := (hR3.alloc (.cells #[.int .i64 0, .int .i64 63, .int .i64 64, .int .i64 (-1)] 3)).turn ht5 hg5
          clear hR3 ht5 hg5 hc
          have hR6 := hR5.alloc (.cells #[.int .i64 a, .int .i64 c] 37)
          obtain ⟨v2, w7, hrun, hown2, hg7⟩ := app_need (r := ⟨a, c⟩) (g := w5.heap.size) hR6.own (Bk.new _ _ _) (by omega) hR6.gb.size
          have hR7 := hR6.add hown2 hg7
          obtain ⟨A, c8, hv, hlc, hrd, ha⟩ := own_rows ndl_len (by omega) hR7.own
          have HV := Lib.hid hv
          have ht := hR7.tape
          have hg := hR7.gb
          clear hR5 hR6 hown2 hg7 hv hR7
          go_wp2_with (at_builtin; refine wpList_append_run rfl (.tmp 33) (.tmp 42) 27 rfl _ (.slice (some ⟨w5.heap.size, 0, none⟩) 1 1) rfl rfl v2 w7 (by exact hrun) ?_)
          go_ret
          exact ⟨l ++ [⟨a, c⟩], A, c8, by rw [← HV.out]; rfl, by simp; omega, hlc, fun h => absurd h Hn0.out, hrd, fun a h => (ha a h).1, ht, hg⟩
end Go.Proofs.Ytcidpgjeddogmaa.Pl
