/- Walk: the statement SeatingAssigns. -/
import Derived.Test.YtcidpgjeddogmaaWO
import Derived.Test.YtcidpgjeddogmaaWB
import Derived.Test.YtcidpgjeddogmaaWL
import Derived.WalkKit
import Derived.WalkSpells
import Derived.WalkLawsBesides
import Derived.Deep.QuietTactic
import Derived.BigQuiet
import Derived.Deep.Draws
import Derived.Deep.AppendLies
import Derived.Laws.OwnMore
import Derived.Laws.BytesArg
import Derived.Lib.Hide
import Derived.Deep.LoopGhost
namespace Go.Proofs.Ytcidpgjeddogmaa.Pl
open Go.RowKit
open Go.Proofs.Ytcidpgjeddogmaa.Mw
open Go.Proofs.Ytcidpgjeddogmaa.St
open Go.Proofs.Ytcidpgjeddogmaa.Tm (cut_any Tp TI TB next_any range_any one_any new_any raw_any)
set_option linter.unusedVariables false
set_option linter.unusedSimpArgs false

theorem cut_0 (x : Int) (w : World) : Calls Try.prog 17 #[.int .i64 x, .int .i64 0] w fun e w' => e = .returned (.int .i64 0) ∧ w = w' := by
  go_enter Try.func17, Try.ntmps17
  go_wp2_with fail
  go_ret
  exact ⟨rfl, rfl⟩
theorem next_0 (tp : Nat) (w : World) (ht : Tp w tp) : Calls Try.prog 25 #[.pointer (some ⟨tp, 0, none⟩), .int .i64 0] w (TI I64 tp w) := by
  go_enter Try.func25, Try.ntmps25
  go_wp2_with fail
  refine (raw_any tp _ ht).mono ?_
  rintro e w1 ⟨x, hx, rfl, ht1, hg1⟩
  go_wp2_with fail
  refine (cut_0 x _).mono ?_
  rintro e w2 ⟨rfl, rfl⟩
  go_wp2_with fail
  go_ret
  exact ⟨0, by unfold I64; omega, rfl, ht1, hg1⟩
theorem next_len (tp n : Nat) (hn : n ≤ 1000) (w : World) (ht : Tp w tp) : Calls Try.prog 25 #[.pointer (some ⟨tp, 0, none⟩), .int .i64 (n : Int)] w (TI I64 tp w) := by
  rcases Nat.eq_zero_or_pos n with h | h
  · subst h; exact next_0 tp w ht
  · refine (next_any tp n w ht (by omega) (by omega)).mono ?_
    rintro e w' ⟨x, hx, h1, h2, h3⟩
    exact ⟨x, by unfold I64; omega, h1, h2, h3⟩
set_option maxHeartbeats 1000000 in
theorem same_any (l : List Pc) (A B : Option Addr) (cA cB : Nat) (w : World) (hl : l.length ≤ 60) (hA : RdR 5 pcl w A l) (hB : RdR 5 pcl w B l) :
    Calls Try.prog 28 #[.slice A l.length cA, .slice B l.length cB] w fun e w' => e = .returned (.bool true) ∧ Below w.heap.size w w' := by
  have HA := Lib.hid hA
  have HB := Lib.hid hB
  clear hA hB
  go_enter Try.func28, Try.ntmps28
  go_wp2_with fail
  go_loopw [5] (fun x wr => ∃ k : Nat, k ≤ l.length ∧ x = .int .i64 k ∧ Below w.heap.size w wr) (fun x _ => l.length - (intOf x).toNat)
  case atStart => exact ⟨0, Nat.zero_le _, rfl, Below.refl _ _⟩
  case round =>
    obtain ⟨k, hk, rfl, hb⟩ := hrel
    by_cases hlt : k < l.length
    · have hk' : (k : Int) < l.length := by omega
      have hk0 : (0 : Int) ≤ k := by omega
      obtain ⟨b, off, rfl, hbl, p0, p1, p2, p3, p4⟩ := pc_at (HA.out.old hb) k hlt
      obtain ⟨b', off', rfl, hbl', q0, q1, q2, q3, q4⟩ := pc_at (HB.out.old hb) k hlt
      go_wp2_with fail
      refine Mm.region_ext (by kernel_rfl) (by kernel_rfl) ?_; (repeat (first | go_big_quiet_step (fail) | quiet_step (fail))); refine wpQuiet_nil ?_
      intro w3 hb3
      have hb4 := bl_trans hb hb3
      go_wp2_with fail
      go_roundw
      case rel => exact ⟨k + 1, by omega, by go_num, hb4⟩
      case measure => simp [intOf]; omega
    · obtain rfl : k = l.length := by omega
      go_wp2_with fail
      go_ret
      exact ⟨rfl, hb⟩
/-- Appending a number to a row of the call's own. -/
theorem app_int1 {w : World} {base g : Nat} {v : Value} {xs : List Int} {x : Int} (hown : w.ownsRow base 3 1 v xs.length (xs.map (Value.int .i64))) (hr : Bk w g 3 #[.int .i64 x]) (h1 : xs.length ≤ 10000) (hb : base ≤ w.heap.size) :
    ∃ v' w', (Builtin.append_ #[22, 22] 22 #[v, .slice (some ⟨g, 0, none⟩) 1 1]).run Try.prog w = .ok v' w' ∧ w'.ownsRow base 3 1 v' (xs ++ [x]).length ((xs ++ [x]).map (Value.int .i64)) ∧ w.grownBy w' v.ownBlock := by
  obtain ⟨i0, hi0, hz0, hz1, hz2⟩ := info_parts infoInt
  obtain ⟨v', w', h2, h3, h4, -, -⟩ := run_append_own_at (P := Try.prog) (w := w) base 22 22 3 i0 (.int .i64 0) 1 8 Try.underlying22 hi0 hz0 hz1 hz2 rfl (by decide) v xs.length (xs.map (Value.int .i64)) hown ⟨g, 0, none⟩ 1 1 [.int .i64 x] rfl (blk_news hr) (by simp [Value.oneCell']) (by simp only [maxLen]; omega) (by omega) hb
  exact ⟨v', w', h2, by rw [List.map_append, List.length_append]; simpa using h3, h4⟩
theorem asg_le {rs : List Rm} {ns : List Nd} {v : Int} {q : List Int} : (asg rs ns v q).1.length ≤ ns.length := by
  unfold asg
  split
  · simp
  · split
    · simp
    · split
      · simp
      · split
        · simp
        · split
          · simp
          · simp [asl_len]
theorem rdi_take {w : World} {A : Option Addr} {l : List Int} (h : RdI w .i64 A l) (n : Nat) : RdI w .i64 A (l.take n) := fun i hi => by
  have hi' : i < n ∧ i < l.length := by simp at hi; omega
  obtain ⟨b, off, e, hlt, hc⟩ := h i hi'.2
  refine ⟨b, off, e, hlt, hc.trans ?_⟩
  have : gi (l.take n) i = gi l i := by
    unfold gi
    rw [List.getD_eq_getElem?_getD, List.getD_eq_getElem?_getD, List.getElem?_take_of_lt hi'.1]
  rw [this]
set_option maxHeartbeats 4000000 in
theorem assigns_st (l : List Int) (A : Option Addr) (c : Nat) (s : List Int) (D : Option Addr) (cD : Nat) (v : Int) (w : World) (hr : RdI w .i64 A l) (hl : l.length ≤ maxLen) (hlc : l.length ≤ c) (hi : ∀ n ∈ l, I64 n) (hs : RdI w .i64 D s) (hsl : s.length ≤ maxLen) (hsc : s.length ≤ cD) (hv : I64 v) :
    Calls Try.prog 8 #[.slice A l.length c, .slice D s.length cD, .int .i64 v] w fun e w' => e = .returned (.bool true) ∧ Below w.heap.size w w' := by
  have HN := Lib.hid (new_any l A c w hr hl hlc hi)
  have HS := Lib.hid hs
  have HC := Lib.hid (cut_any v 3 (by omega) (by omega) hv)
  have b5 := Int.emod_nonneg v (show (3 : Int) ≠ 0 by omega)
  have b6 := Int.emod_lt_of_pos v (show (0 : Int) < 3 by omega)
  generalize v % 3 = v' at HC b5 b6
  have ev : IntKind.i64.wrap (2 + v') = 2 + v' := IntWalk.i64_in _ (by omega)
  clear hr hl hlc hi hs hv
  have HSL := Lib.hid hsl
  unfold maxLen at hsl
  go_enter Try.func8, Try.ntmps8
  go_wp2_with fail
  refine HN.out.mono ?_
  rintro e w1 ⟨rfl, ht1, hb1⟩
  clear HN
  go_wp2_with fail
  refine (rooms_any w.heap.size 12 _ ht1 (by omega)).mono ?_
  rintro e w2 ⟨rs, A1, c1, rfl, hl1, -, -, hr1, ha1, ht2, hg2⟩
  go_wp2_with fail
  refine (needs_any w.heap.size 12 _ ht2 (by omega)).mono ?_
  rintro e w3 ⟨ns, A2, c2, rfl, hl2, -, -, hr2, ha2, ht3, hg3⟩
  have hr1' := rdr_turn hr1 hg3 ha1 (ht1.lt)
  have hb2 : Below w.heap.size w w2 := hb1.grown hg2 hb1.size fun q hq => by cases hq; exact Nat.le_refl _
  have hb3 : Below w.heap.size w w3 := hb2.grown hg3 hb2.size fun q hq => by cases hq; exact Nat.le_refl _
  have t1lt := ht1.lt
  have t2lt := ht2.lt
  have h0 := RT.new (T := 3) (sz := 1) w3 ht3
  clear hb1 hb2 ht1 hr1 ht2 hg2 ht3 hg3
  go_wp2_with fail
  refine (HC.out _).mono ?_
  rintro e w4 ⟨rfl, rfl⟩
  go_wp2_with fail
  go_loopw [11, 12] (fun y i wr => ∃ (k : Nat) (z : List Int), i = .int .i64 k ∧ k ≤ ns.length ∧ z.length = k ∧ RT 3 1 w3 w.heap.size wr y z.length (z.map (Value.int .i64))) (fun _ i _ => ns.length - (intOf i).toNat)
  case atStart => exact ⟨0, [], rfl, by omega, rfl, h0⟩
  case round =>
    clear h0
    obtain ⟨k, z, rfl, hk, hz, hR⟩ := hrel
    have Hz := Lib.hid hz
    have hz8 : z.length ≤ 8 := by omega
    clear hz
    by_cases hkn : k < ns.length
    · have hk' : (k : Int) < ns.length := by omega
      go_wp2_with fail
      refine (next_len w.heap.size rs.length (by omega) _ hR.tape).mono ?_
      rintro e w5 ⟨x, hx, rfl, ht5, hg5⟩
      have hR5 := hR.turn ht5 hg5
      have hR6 := hR5.alloc (.cells #[.int .i64 x] 3)
      obtain ⟨v2, w7, hrun, hown2, hg7⟩ := app_int1 (x := x) (g := w5.heap.size) hR6.own (Bk.new _ _ _) (by omega) hR6.gb.size
      have hR7 := hR6.add hown2 hg7
      clear hR hR5 hR6 ht5 hg5 hown2 hg7
      go_wp2_with (at_builtin; refine wpList_append_run rfl (.tmp 33) (.tmp 38) 22 rfl _ (.slice (some ⟨w5.heap.size, 0, none⟩) 1 1) rfl rfl v2 w7 (by exact hrun) ?_)
      go_roundw
      case rel => exact ⟨k + 1, z ++ [x], by go_num, by omega, by have := Hz.out; simp; omega, hR7⟩
      case measure => simp [intOf]; omega
    · obtain rfl : k = ns.length := by omega
      obtain ⟨A5, c5, hv5, hr5, ha5⟩ := own_ints hR.own
      have HV := Lib.hid hv5
      have hr1'' := rdr_turn hr1' hR.gb ha1 t1lt
      have hr2' := rdr_turn hr2 hR.gb ha2 t2lt
      have hb4 : Below w.heap.size w wr := hb3.grown hR.gb hb3.size fun q hq => by cases hq; exact Nat.le_refl _
      have HR1 := Lib.hid hr1''
      have HR2 := Lib.hid hr2'
      have HS4 := Lib.hid (HS.out.old hb4)
      have m1 : rs.length ≤ maxLen := by unfold maxLen; omega
      have m2 : ns.length ≤ maxLen := by unfold maxLen; omega
      clear hv5 hR hr1'' hr2' hr1' hr2 ha1 ha2 ha5 hb3 hkn hk
      generalize wr = W at *
      rw [HV.out]
      have hz0 : z.length ≤ 100 := by omega
      go_wp2_with fail
      go_loopw [11, 13] (fun y x wr => ∃ (i : Nat) (q : List Int) (E : Option Addr) (ce : Nat), i ≤ 2 ∧ x = .int .i64 i ∧ y = .slice E q.length ce ∧ q.length ≤ 100 ∧ RdI wr .i64 E q ∧ Below W.heap.size W wr) (fun _ x _ => 2 - (intOf x).toNat)
      case atStart => exact ⟨0, z, A5, c5, by omega, rfl, rfl, hz0, hr5, Below.refl _ _⟩
      case round =>
        clear hr5 hz0
        obtain ⟨i, q, E, ce, hi2, rfl, rfl, hq, hrq, hb⟩ := hrel
        by_cases hlt : i < 2
        · have hlt' : (i : Int) < 2 := by omega
          have hi0 : (0 : Int) ≤ i := by omega
          have hqm : q.length ≤ maxLen := by unfold maxLen; omega
          have HP := Lib.hid (assign_any rs ns (2 + v') q A1 A2 E c1 c2 ce wr m1 m2 hqm (HR1.out.old hb) (HR2.out.old hb) hrq)
          have HQ : Hid (∀ V, Below wr.heap.size wr V → Calls Try.prog 27 #[.slice A1 rs.length c1, .slice A2 ns.length c2, .int .i64 (2 + v'), .slice E q.length ce] V (AsgP (asg rs ns (2 + v') q) V)) := fun V hV => rassign_any rs ns (2 + v') q A1 A2 E c1 c2 ce V m1 m2 hqm ((HR1.out.old hb).old hV) ((HR2.out.old hb).old hV) (hrq.old hV)
          have hle := asg_le (rs := rs) (ns := ns) (v := 2 + v') (q := q)
          generalize asg rs ns (2 + v') q = r at HP HQ hle
          obtain ⟨rl, re⟩ := r
          simp only at hle
          clear hrq hqm
          go_wp2_with fail
          refine HP.out.mono ?_
          rintro e w5 ⟨E5, ce5, rfl, hr5, -, -, hb5⟩
          simp only at hr5
          go_wp2_with fail
          refine (HQ.out _ hb5).mono ?_
          rintro e w6 ⟨E6, ce6, rfl, hr6, -, -, hb6⟩
          simp only at hr6
          have hsm := same_any rl E5 E6 ce5 ce6 w6 (by omega) (hr5.old hb6) hr6
          have Hsm := Lib.hid hsm
          have hb7 := bl_trans (bl_trans hb hb5) hb6
          clear hsm hr5 hr6 hb hb5 hb6
          go_wp2_with fail
          refine Hsm.out.mono ?_
          rintro e w8 ⟨rfl, hb8⟩
          have hb9 := bl_trans hb7 hb8
          have hs9 := HS4.out.old hb9
          by_cases hs60 : 60 < s.length
          · have t1 : decide ((60 : Int) < s.length) = true := decide_eq_true (by omega)
            have hc60 : (60 : Int) ≤ cD := by omega
            have ht60 : (s.take 60).length = 60 := by simp; omega
            have Ht := Lib.hid ht60
            clear hs60 ht60
            go_wp2_with fail
            go_roundw
            case rel => exact ⟨i + 1, s.take 60, D, cD, by omega, by go_num, by rw [Ht.out], by rw [Ht.out]; omega, rdi_take hs9 60, hb9⟩
            case measure => simp [intOf]; omega
          · have t1 : decide ((60 : Int) < s.length) = false := decide_eq_false (by omega)
            have hs100 : s.length ≤ 100 := by omega
            clear hs60
            go_wp2_with fail
            go_roundw
            case rel => exact ⟨i + 1, s, D, cD, by omega, by go_num, rfl, hs100, hs9, hb9⟩
            case measure => simp [intOf]; omega
        · obtain rfl : i = 2 := by omega
          have hb5 := bl_trans hb4 hb
          go_wp2_with fail
          refine (awake_any _).mono ?_
          rintro e w8 ⟨rfl, hb8⟩
          have hb9 := bl_trans hb5 hb8
          go_wp2_with fail
          go_ret
          exact ⟨rfl, hb9⟩
end Go.Proofs.Ytcidpgjeddogmaa.Pl
