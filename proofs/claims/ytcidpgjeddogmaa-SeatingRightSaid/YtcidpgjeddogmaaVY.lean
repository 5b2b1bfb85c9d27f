/- Walk: seating.Short. -/
import Derived.Test.YtcidpgjeddogmaaVW
import Derived.WalkKit
import Derived.WalkSpells
import Derived.WalkLawsBesides
import Derived.Deep.QuietTactic
import Derived.BigQuiet
import Derived.Deep.Draws
import Derived.Deep.AppendLies
import Derived.Laws.OwnMore
import Derived.Laws.BytesArg
import Derived.Lib.Hide
import Derived.Deep.LoopGhost
namespace Go.Proofs.Ytcidpgjeddogmaa.Pl
open Go.RowKit
open Go.Proofs.Ytcidpgjeddogmaa.Mw
open Go.Proofs.Ytcidpgjeddogmaa.St
set_option linter.unusedVariables false
set_option linter.unusedSimpArgs false

theorem isB_0 {n : Nat} {l : List Int} {i : Nat} (h : ¬ (0 ≤ gi l i ∧ gi l i < n)) : isB n l i = false := by
  unfold isB
  rw [(ins_no _ _ _).2 (fun x => h (by omega))]; rfl
theorem isB_1 {n : Nat} {l : List Int} {i : Nat} (h : gi l (i + 1) ≤ gi l i) : isB n l (i + 1) = false := by
  unfold isB
  rw [Nat.add_sub_cancel, decide_eq_false (by omega)]; simp
theorem isB_y {n : Nat} {l : List Int} {i : Nat} (h : 0 ≤ gi l i ∧ gi l i < n) (h2 : i = 0 ∨ gi l (i - 1) < gi l i) : isB n l i = true := by
  unfold isB
  rw [(ins_iff _ _ _).2 (by omega)]
  rcases h2 with h2 | h2
  · subst h2; rfl
  · rw [decide_eq_true h2]; simp
theorem isB_in {n : Nat} {l : List Int} {i : Nat} (h : isB n l i = true) : 0 ≤ gi l i ∧ gi l i < n := by
  unfold isB at h
  rw [Bool.and_eq_true] at h
  have := (ins_iff _ _ _).1 h.1
  omega
set_option maxHeartbeats 2000000 in
theorem isset_any (n : Nat) (hn : n ≤ 60) (l : List Int) (A : Option Addr) (c : Nat) (w : World) (hl : l.length ≤ maxLen) (hr : RdI w .i64 A l) :
    Calls Try.prog 47 #[.slice A l.length c, .int .i64 (n : Int)] w fun e w' => e = .returned (.bool (alln l.length (isB n l))) ∧ w = w' := by
  unfold maxLen at hl
  have HR := Lib.hid hr
  have hn' : (n : Int) ≤ 60 := by omega
  clear hr
  go_enter Try.func47, Try.ntmps47
  go_wp2_with fail
  go_loop [9] (fun x => ∃ k : Nat, k ≤ l.length ∧ x = .int .i64 k ∧ Hid (∀ j, j < k → isB n l j = true)) (fun x => l.length - (intOf x).toNat)
  case atStart => exact ⟨0, Nat.zero_le _, rfl, fun j hj => absurd hj (by omega)⟩
  case round =>
    obtain ⟨k, hk, rfl, hok⟩ := hrel
    by_cases hlt : k < l.length
    · obtain ⟨b, off, rfl, hbl, a0⟩ := HR.out k hlt
      have hk' : (k : Int) < l.length := by omega
      have hk0 : (0 : Int) ≤ k := by omega
      by_cases h1 : gi l k < 0
      · have H : Hid (alln l.length (isB n l) = false) := alln_false k hlt (isB_0 (by omega))
        have t1 : decide (gi l k < 0) = true := decide_eq_true h1
        clear h1
        go_wp2_with fail
        go_ret
        exact ⟨by rw [H.out]; rfl, rfl⟩
      · have t1 : decide (gi l k < 0) = false := decide_eq_false h1
        by_cases h2 : (n : Int) ≤ gi l k
        · have H : Hid (alln l.length (isB n l) = false) := alln_false k hlt (isB_0 (by omega))
          have t2 : decide ((n : Int) ≤ gi l k) = true := decide_eq_true h2
          clear h1 h2
          go_wp2_with fail
          go_ret
          exact ⟨by rw [H.out]; rfl, rfl⟩
        · have t2 : decide ((n : Int) ≤ gi l k) = false := decide_eq_false h2
          rcases Nat.eq_zero_or_pos k with hk1 | hk1
          · have HN := Lib.hid (snocA hok.out (isB_y (by omega) (.inl hk1)))
            have t3 : decide (0 < k) = false := decide_eq_false (by omega)
            have t4 : decide ((0 : Int) < k) = false := decide_eq_false (by omega)
            have hk1' : (k : Int) ≤ 0 := by omega
            clear h1 h2 hk1
            go_wp2_with fail
            go_round
            case rel => exact ⟨k + 1, by omega, by go_num, HN⟩
            case measure => simp [intOf]; omega
          · obtain ⟨j, rfl⟩ : ∃ j, k = j + 1 := ⟨k - 1, by omega⟩
            obtain ⟨b', off', e', hbl', a1⟩ := HR.out j (by omega)
            cases e'
            have hj0 : (0 : Int) ≤ j := by omega
            have hjl : (j : Int) < l.length := by omega
            have t3 : decide ((0 : Int) < (j : Int) + 1) = true := decide_eq_true (by omega)
            have t5 : IntKind.i64.wrap ((j : Int) + 1 - 1) = (j : Int) := by rw [show (j : Int) + 1 - 1 = j by omega]; exact IntWalk.i64_in _ (by omega)
            by_cases h3 : gi l (j + 1) ≤ gi l j
            · have H : Hid (alln l.length (isB n l) = false) := alln_false (j + 1) hlt (isB_1 h3)
              have t4 : decide (gi l (j + 1) ≤ gi l j) = true := decide_eq_true h3
              clear h1 h2 h3 hk1
              go_wp2_with fail
              go_ret
              exact ⟨by rw [H.out]; rfl, rfl⟩
            · have HN := Lib.hid (snocA hok.out (isB_y (n := n) (by omega) (.inr (show gi l (j + 1 - 1) < gi l (j + 1) by rw [Nat.add_sub_cancel]; omega))))
              have t4 : decide (gi l (j + 1) ≤ gi l j) = false := decide_eq_false h3
              clear h1 h2 h3 hk1
              go_wp2_with fail
              go_round
              case rel => exact ⟨j + 1 + 1, by omega, by go_num, HN⟩
              case measure => simp [intOf]; omega
    · obtain rfl : k = l.length := by omega
      have H : Hid (alln l.length (isB n l) = true) := alln_true hok.out
      go_wp2_with fail
      go_ret
      exact ⟨by rw [H.out]; rfl, rfl⟩
/-- Some candidate of the set is suited by a room. -/
def anyR (r : Rm) (ns : List Nd) (l : List Int) : Bool := l.any fun x => sut r (ge ns x.toNat)
theorem anyR_y {r : Rm} {ns : List Nd} {l : List Int} {k : Nat} (hk : k < l.length) (h : sut r (ge ns (gi l k).toNat) = true) : anyR r ns l = true := by
  unfold anyR; rw [List.any_eq_true]; exact ⟨_, gi_mem l k hk, h⟩
theorem anyR_n {r : Rm} {ns : List Nd} {l : List Int} (h : ∀ k, k < l.length → sut r (ge ns (gi l k).toNat) = false) : anyR r ns l = false := by
  unfold anyR
  rw [List.any_eq_false]
  intro x hx
  obtain ⟨k, hk, rfl⟩ := List.mem_iff_getElem.1 hx
  have := h k hk
  have e := gi_lt l k hk
  rw [List.getElem?_eq_getElem hk] at e
  rw [Option.some.inj e, this]; simp
abbrev clo (g h : Nat) : Value := .func (.func 49) #[] #[.pointer (some ⟨g, 0, none⟩), .pointer (some ⟨h, 0, none⟩)]
set_option maxHeartbeats 1000000 in
theorem clo_any (r : Rm) (ns : List Nd) (i : Nat) (B : Option Addr) (cB : Nat) (g h : Nat) (w : World) (hg : Bk w g 35 #[.int .i64 r.r, .int .i64 r.c, .int .i64 r.o]) (hh : Bk w h 27 #[.slice B ns.length cB]) (hB : RdNd w B ns) (hi : i < ns.length) (hl : ns.length ≤ 60) :
    Calls Try.prog 49 #[.int .i64 (i : Int), .pointer (some ⟨g, 0, none⟩), .pointer (some ⟨h, 0, none⟩)] w fun e w' => e = .returned (.bool (sut r (ge ns i))) ∧ Below w.heap.size w w' := by
  obtain ⟨b, off, rfl, hbl, d0, d1⟩ := nd_at hB i hi
  have c0 : w.cell? ⟨g, 0, none⟩ = some (.int .i64 r.r) := hg.cell 0
  have c1 : w.cell? ⟨g, 1, none⟩ = some (.int .i64 r.c) := hg.cell 1
  have c2 : w.cell? ⟨g, 2, none⟩ = some (.int .i64 r.o) := hg.cell 2
  have e0 : w.cell? ⟨h, 0, none⟩ = some (.slice (some ⟨b, off, none⟩) ns.length cB) := hh.cell 0
  have f0 := hg.lt
  have f1 := hh.lt
  have hi0 : (0 : Int) ≤ i := by omega
  have hi1 : (i : Int) < ns.length := by omega
  go_enter Try.func49, Try.ntmps49
  go_wp2_with fail
  refine Mm.region_ext (by kernel_rfl) (by kernel_rfl) ?_; (repeat (first | go_big_quiet_step ((go_at_call 23; exact Mm.calls_ext (suits_any r (ge ns i) _))) | quiet_step ((go_at_call 23; exact Mm.calls_ext (suits_any r (ge ns i) _))))); refine wpQuiet_nil ?_
  intro w1 hb1
  go_wp2_with fail
  go_ret
  exact ⟨rfl, hb1⟩
set_option maxHeartbeats 1000000 in
theorem index_any (r : Rm) (ns : List Nd) (l : List Int) (A B : Option Addr) (c cB : Nat) (g h : Nat) (w : World) (hl : l.length ≤ maxLen) (hA : RdI w .i64 A l) (hg : Bk w g 35 #[.int .i64 r.r, .int .i64 r.c, .int .i64 r.o]) (hh : Bk w h 27 #[.slice B ns.length cB]) (hB : RdNd w B ns) (hin : ∀ k, k < l.length → 0 ≤ gi l k ∧ gi l k < ns.length) (hnl : ns.length ≤ 60) :
    Calls Try.prog 53 #[.slice A l.length c, clo g h] w fun e w' => ∃ x : Int, e = .returned (.int .i64 x) ∧ decide (0 ≤ x) = anyR r ns l ∧ Below w.heap.size w w' := by
  unfold maxLen at hl
  have HA := Lib.hid hA
  have HB := Lib.hid hB
  have Hg := Lib.hid hg
  have Hh := Lib.hid hh
  have HI := Lib.hid hin
  clear hA hB hg hh hin
  go_enter Try.func53, Try.ntmps53
  go_wp2_with fail
  go_loopw [8] (fun x wr => ∃ k : Nat, k ≤ l.length ∧ x = .int .i64 k ∧ Hid (∀ j, j < k → sut r (ge ns (gi l j).toNat) = false) ∧ Below w.heap.size w wr) (fun x _ => l.length - (intOf x).toNat)
  case atStart => exact ⟨0, Nat.zero_le _, rfl, fun j hj => absurd hj (by omega), Below.refl _ _⟩
  case round =>
    obtain ⟨k, hk, rfl, hok, hb⟩ := hrel
    by_cases hlt : k < l.length
    · obtain ⟨b, off, rfl, hbl, a0⟩ := (HA.out.old hb) k hlt
      have hk' : (k : Int) < l.length := by omega
      have hk0 : (0 : Int) ≤ k := by omega
      obtain ⟨i1, i2⟩ := HI.out k hlt
      obtain ⟨u, hu⟩ : ∃ u : Nat, (u : Int) = gi l k := ⟨(gi l k).toNat, by omega⟩
      have hut : (gi l k).toNat = u := by omega
      rw [← hu] at a0
      have Hut := Lib.hid hut
      have hul : u < ns.length := by omega
      clear hu hut i1 i2
      go_wp2_with fail
      refine (clo_any r ns u B cB g h _ (Hg.out.old hb) (Hh.out.old hb) (HB.out.old hb) hul hnl).mono ?_
      rintro e w1 ⟨rfl, hb1⟩
      have hb2 := bl_trans hb hb1
      clear hb1
      cases hs : sut r (ge ns u)
      · have HN := Lib.hid (snocA hok.out (by rw [Hut.out]; exact hs))
        clear hs
        go_wp2_with fail
        go_roundw
        case rel => exact ⟨k + 1, by omega, by go_num, HN, hb2⟩
        case measure => simp [intOf]; omega
      · have H : Hid (anyR r ns l = true) := anyR_y hlt (by rw [Hut.out]; exact hs)
        clear hs
        go_wp2_with fail
        go_ret
        exact ⟨k, rfl, by rw [H.out]; exact decide_eq_true hk0, hb2⟩
    · obtain rfl : k = l.length := by omega
      have H : Hid (anyR r ns l = false) := anyR_n hok.out
      go_wp2_with fail
      go_ret
      exact ⟨-1, rfl, by rw [H.out]; rfl, hb⟩
set_option maxHeartbeats 1000000 in
theorem contains_any (r : Rm) (ns : List Nd) (l : List Int) (A B : Option Addr) (c cB : Nat) (g h : Nat) (w : World) (hl : l.length ≤ maxLen) (hA : RdI w .i64 A l) (hg : Bk w g 35 #[.int .i64 r.r, .int .i64 r.c, .int .i64 r.o]) (hh : Bk w h 27 #[.slice B ns.length cB]) (hB : RdNd w B ns) (hin : ∀ k, k < l.length → 0 ≤ gi l k ∧ gi l k < ns.length) (hnl : ns.length ≤ 60) :
    Calls Try.prog 48 #[.slice A l.length c, clo g h] w fun e w' => e = .returned (.bool (anyR r ns l)) ∧ Below w.heap.size w w' := by
  have H := Lib.hid (index_any r ns l A B c cB g h w hl hA hg hh hB hin hnl)
  clear hA hg hh hB hin
  go_enter Try.func48, Try.ntmps48
  go_wp2_with fail
  refine H.out.mono ?_
  rintro e w1 ⟨x, rfl, hx, hb⟩
  have Hx := Lib.hid hx
  clear hx
  go_wp2_with fail
  go_ret
  exact ⟨by rw [← Hx.out]; rfl, hb⟩
end Go.Proofs.Ytcidpgjeddogmaa.Pl
