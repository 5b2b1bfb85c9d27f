/- Walk: the statement SeatingShort. -/
import Derived.Test.YtcidpgjeddogmaaWK
import Derived.Test.YtcidpgjeddogmaaWJ
import Derived.Test.YtcidpgjeddogmaaVV
import Derived.WalkKit
import Derived.WalkSpells
import Derived.WalkLawsBesides
import Derived.Deep.QuietTactic
import Derived.BigQuiet
import Derived.Deep.Draws
import Derived.Deep.AppendLies
import Derived.Laws.OwnMore
import Derived.Laws.BytesArg
import Derived.Lib.Hide
import Derived.Deep.LoopGhost
namespace Go.Proofs.Ytcidpgjeddogmaa.Pl
open Go.RowKit
open Go.Proofs.Ytcidpgjeddogmaa.Mw
open Go.Proofs.Ytcidpgjeddogmaa.St
open Go.Proofs.Ytcidpgjeddogmaa.Tm (cut_any Tp TI TB next_any range_any one_any new_any)
set_option linter.unusedVariables false
set_option linter.unusedSimpArgs false

/-- A list of numbers in new memory; the tape alone has turned. -/
def TLi (n : Nat) (tp : Nat) (w : World) (e : Ending) (w' : World) : Prop := ∃ (l : List Nat) (A : Option Addr) (c : Nat), e = .returned (.slice A l.length c) ∧ l.length ≤ n ∧ RdE nat64 w' A l ∧ (∀ a, A = some a → w.heap.size ≤ a.block) ∧ Tp w' tp ∧ w.grownBy w' (some tp)
set_option maxHeartbeats 2000000 in
theorem sorted_any (tp n : Nat) (w : World) (ht : Tp w tp) (hn : n ≤ 100) : Calls Try.prog 32 #[.pointer (some ⟨tp, 0, none⟩), .int .i64 (n : Int)] w (TLi n tp w) := by
  have h0 := RT.new (T := 3) (sz := 1) w ht
  go_enter Try.func32, Try.ntmps32
  go_wp2_with fail
  go_loopw [5, 6] (fun v i wr => ∃ (k : Nat) (l : List Nat), i = .int .i64 k ∧ k ≤ n ∧ l.length ≤ k ∧ RT 3 1 w tp wr v l.length (l.map nat64)) (fun _ i _ => n - (intOf i).toNat)
  case atStart => exact ⟨0, [], rfl, by omega, by simp, h0⟩
  case round =>
    clear h0
    obtain ⟨k, l, rfl, hk, hl, hR⟩ := hrel
    by_cases hkn : k < n
    · have hk' : (k : Int) < n := by omega
      go_wp2_with fail
      refine (next_any tp 2 _ hR.tape (by omega) (by omega)).mono ?_
      rintro e w2 ⟨a, ⟨a0, a1⟩, rfl, ht2, hg2⟩
      have hR2 := hR.turn ht2 hg2
      clear hR ht2 hg2
      by_cases ha : a = 1
      · have t1 : (a == 1) = true := beq_iff_eq.2 ha
        have hR3 := hR2.alloc (.cells #[.int .i64 (k : Int)] 3)
        have hka : RdE nat64 (w2.alloc (.cells #[.int .i64 (k : Int)] 3)) (some ⟨w2.heap.size, 0, none⟩) [k] := RdE.bk (Bk.new _ _ _) rfl
        obtain ⟨v2, w5, hrun, hown2, hg5⟩ := app_nat (c := 1) hR3.own hka (by simp; omega) hR3.gb.size
        change (Builtin.append_ #[22, 22] 22 #[_, .slice (some ⟨w2.heap.size, 0, none⟩) 1 1]).run Try.prog (w2.alloc (.cells #[.int .i64 (k : Int)] 3)) = _ at hrun
        have hR5 := hR3.add hown2 hg5
        clear hR3 hown2 hg5 hR2 ha hka
        go_wp2_with (at_builtin; refine wpList_append_run rfl (.tmp 15) (.tmp 17) 22 rfl _ (.slice (some ⟨w2.heap.size, 0, none⟩) 1 1) rfl rfl v2 w5 (by exact hrun) ?_)
        go_roundw
        case rel => exact ⟨k + 1, l ++ [k], by go_num, by omega, by simp; omega, hR5⟩
        case measure => simp [intOf]; omega
      · have t1 : (a == 1) = false := beq_eq_false_iff_ne.2 ha
        clear ha
        go_wp2_with fail
        go_roundw
        case rel => exact ⟨k + 1, l, by go_num, by omega, by omega, hR2⟩
        case measure => simp [intOf]; omega
    · obtain rfl : k = n := by omega
      obtain ⟨A, c, hv, hrd, ha⟩ := own_enc hR.own
      have HV := Lib.hid hv
      have ht := hR.tape
      have hg := hR.gb
      clear hv hR
      go_wp2_with fail
      go_ret
      exact ⟨l, A, c, by rw [HV.out]; rfl, hl, hrd, fun a h => (ha a h).1, ht, hg⟩
theorem rde_ints {w : World} {A : Option Addr} {l : List Nat} (h : RdE nat64 w A l) : RdI w .i64 A (l.map fun x : Nat => (x : Int)) := fun i hi => by
  have hi' : i < l.length := by simpa using hi
  obtain ⟨b, off, e, hlt, hc⟩ := h i hi'
  refine ⟨b, off, e, hlt, hc.trans ?_⟩
  have e1 := gi_lt (l.map fun x : Nat => (x : Int)) i hi
  rw [List.getElem?_map, ge_lt l i hi'] at e1
  have e2 : ((ge l i : Nat) : Int) = gi (l.map fun x : Nat => (x : Int)) i := Option.some.inj e1
  rw [← e2]; rfl
set_option maxHeartbeats 4000000 in
theorem short_st (l : List Int) (A : Option Addr) (c : Nat) (s : List Int) (D : Option Addr) (cD : Nat) (w : World) (hr : RdI w .i64 A l) (hl : l.length ≤ maxLen) (hlc : l.length ≤ c) (hi : ∀ n ∈ l, I64 n) (hs : RdI w .i64 D s) (hsl : s.length ≤ maxLen) :
    Calls Try.prog 10 #[.slice A l.length c, .slice D s.length cD] w fun e w' => e = .returned (.bool true) ∧ Below w.heap.size w w' := by
  have HN := Lib.hid (new_any l A c w hr hl hlc hi)
  have HS := Lib.hid hs
  have HSL := Lib.hid hsl
  clear hr hl hlc hi hs
  unfold maxLen at hsl
  go_enter Try.func10, Try.ntmps10
  go_wp2_with fail
  refine HN.out.mono ?_
  rintro e w1 ⟨rfl, ht1, hb1⟩
  clear HN
  go_wp2_with fail
  refine (rooms_any w.heap.size 12 _ ht1 (by omega)).mono ?_
  rintro e w2 ⟨rs, A1, c1, rfl, hl1, -, -, hr1, ha1, ht2, hg2⟩
  go_wp2_with fail
  refine (needs_any w.heap.size 12 _ ht2 (by omega)).mono ?_
  rintro e w3 ⟨ns, A2, c2, rfl, hl2, -, -, hr2, ha2, ht3, hg3⟩
  have hr1' := rdr_turn hr1 hg3 ha1 (ht1.lt)
  have hb2 : Below w.heap.size w w2 := hb1.grown hg2 hb1.size fun q hq => by cases hq; exact Nat.le_refl _
  have hb3 : Below w.heap.size w w3 := hb2.grown hg3 hb2.size fun q hq => by cases hq; exact Nat.le_refl _
  go_wp2_with fail
  refine (sorted_any w.heap.size ns.length _ ht3 (by omega)).mono ?_
  rintro e w4 ⟨s1, A3, c3, rfl, hl3, hr3, ha3, ht4, hg4⟩
  have hr1'' := rdr_turn hr1' hg4 ha1 (ht1.lt)
  have hr2' := rdr_turn hr2 hg4 ha2 (ht2.lt)
  have hb4 : Below w.heap.size w w4 := hb3.grown hg4 hb3.size fun q hq => by cases hq; exact Nat.le_refl _
  have hr3' := rde_ints hr3
  have e3 : (s1.map fun x : Nat => (x : Int)).length = s1.length := by simp
  have m1 : rs.length ≤ maxLen := by unfold maxLen; omega
  have m2 : ns.length ≤ maxLen := by unfold maxLen; omega
  have m3 : (s1.map fun x : Nat => (x : Int)).length ≤ maxLen := by unfold maxLen; omega
  have P1 : Hid (∀ V, Below w4.heap.size w4 V → Calls Try.prog 33 #[.slice A1 rs.length c1, .slice A2 ns.length c2, .slice A3 s1.length c3] V fun e w' => e = .returned (.bool (shr rs ns (s1.map fun x : Nat => (x : Int)))) ∧ Below V.heap.size V w') := fun V hV => by
    have := short_any rs ns (s1.map fun x : Nat => (x : Int)) A1 A2 A3 c1 c2 c3 V m1 m2 m3 (hr1''.old hV) (hr2'.old hV) (hr3'.old hV)
    rwa [e3] at this
  have P2 : Hid (∀ V, Below w4.heap.size w4 V → Calls Try.prog 34 #[.slice A1 rs.length c1, .slice A2 ns.length c2, .slice A3 s1.length c3] V fun e w' => e = .returned (.bool (shr rs ns (s1.map fun x : Nat => (x : Int)))) ∧ Below V.heap.size V w') := fun V hV => by
    have := rshort_any rs ns (s1.map fun x : Nat => (x : Int)) A1 A2 A3 c1 c2 c3 V m1 m2 m3 (hr1''.old hV) (hr2'.old hV) (hr3'.old hV)
    rwa [e3] at this
  have P3 : Hid (∀ V, Below w4.heap.size w4 V → Calls Try.prog 33 #[.slice A1 rs.length c1, .slice A2 ns.length c2, .slice D s.length cD] V fun e w' => e = .returned (.bool (shr rs ns s)) ∧ Below V.heap.size V w') := fun V hV =>
    short_any rs ns s A1 A2 D c1 c2 cD V m1 m2 HSL.out (hr1''.old hV) (hr2'.old hV) (HS.out.old (bl_trans hb4 hV))
  have P4 : Hid (∀ V, Below w4.heap.size w4 V → Calls Try.prog 34 #[.slice A1 rs.length c1, .slice A2 ns.length c2, .slice D s.length cD] V fun e w' => e = .returned (.bool (shr rs ns s)) ∧ Below V.heap.size V w') := fun V hV =>
    rshort_any rs ns s A1 A2 D c1 c2 cD V m1 m2 HSL.out (hr1''.old hV) (hr2'.old hV) (HS.out.old (bl_trans hb4 hV))
  generalize shr rs ns (s1.map fun x : Nat => (x : Int)) = x1 at P1 P2
  generalize shr rs ns s = x2 at P3 P4
  clear hb1 hb2 hb3 ht1 hr1 ha1 ht2 hg2 hr2 ha2 ht3 hg3 hr1' hr1'' hr2' hr3 hr3' ha3 ht4 hg4 e3 m1 m2 m3
  by_cases h70 : 70 < s.length
  · have t1 : decide ((70 : Int) < s.length) = true := decide_eq_true (by omega)
    clear h70
    go_wp2_with fail
    go_ret
    exact ⟨rfl, hb4⟩
  · have t1 : decide ((70 : Int) < s.length) = false := decide_eq_false (by omega)
    clear h70
    go_wp2_with fail
    refine (P1.out _ (Below.refl _ _)).mono ?_
    rintro e w5 ⟨rfl, hb5⟩
    go_wp2_with fail
    refine (P2.out _ hb5).mono ?_
    rintro e w6 ⟨rfl, hb6⟩
    have hb7 := bl_trans hb5 hb6
    go_wp2_with fail
    refine (P3.out _ hb7).mono ?_
    rintro e w8 ⟨rfl, hb8⟩
    have hb9 := bl_trans hb7 hb8
    go_wp2_with fail
    refine (P4.out _ hb9).mono ?_
    rintro e wa ⟨rfl, hba⟩
    have hbb := bl_trans hb9 hba
    go_wp2_with fail
    refine (awake_any _).mono ?_
    rintro e wc ⟨rfl, hbc⟩
    have hbd := bl_trans hbb hbc
    go_wp2_with fail
    go_ret
    exact ⟨rfl, bl_trans hb4 hbd⟩
end Go.Proofs.Ytcidpgjeddogmaa.Pl
