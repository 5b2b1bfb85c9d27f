/- Walks: Subset of the reference; the statement SeatingEither. -/
import Derived.Test.YtcidpgjeddogmaaWM
import Derived.Test.YtcidpgjeddogmaaWL
import Derived.WalkKit
import Derived.WalkSpells
import Derived.WalkLawsBesides
import Derived.Deep.QuietTactic
import Derived.BigQuiet
import Derived.Deep.Draws
import Derived.Deep.AppendLies
import Derived.Laws.OwnMore
import Derived.Laws.BytesArg
import Derived.Lib.Hide
import Derived.Deep.LoopGhost
namespace Go.Proofs.Ytcidpgjeddogmaa.Pl
open Go.RowKit
open Go.Proofs.Ytcidpgjeddogmaa.Mw
open Go.Proofs.Ytcidpgjeddogmaa.St
open Go.Proofs.Ytcidpgjeddogmaa.Tm (cut_any Tp TI TB next_any range_any one_any new_any)
set_option linter.unusedVariables false
set_option linter.unusedSimpArgs false

theorem bit_and : ∀ b : Fin 128, ∀ k : Fin 7, (bits .and .i64 ((b.val : Int) / 2 ^ k.val) 1 == 1) = b.val.testBit k.val := by decide +kernel
theorem sbs_succ (n b : Nat) : sbs (n + 1) b = sbs n b ++ if b.testBit n = true then [n] else [] := by
  unfold sbs
  rw [List.range_succ, List.filter_append]
  congr 1
  by_cases h : b.testBit n = true
  · rw [if_pos h, List.filter_cons, if_pos h]; rfl
  · rw [if_neg h, List.filter_cons, if_neg h]; rfl
theorem sbs_len (n b : Nat) : (sbs n b).length ≤ n := by
  unfold sbs
  have := List.length_filter_le (fun i => b.testBit i) (List.range n)
  simpa using this
set_option maxHeartbeats 2000000 in
theorem subset_any (n b : Nat) (hn : n ≤ 7) (hb : b < 128) (w : World) : Calls Try.prog 38 #[.int .i64 (n : Int), .int .i64 (b : Int)] w fun e w' => ∃ (A : Option Addr) (c : Nat), e = .returned (.slice A (sbs n b).length c) ∧ RdE nat64 w' A (sbs n b) ∧ Below w.heap.size w w' := by
  go_enter Try.func38, Try.ntmps38
  go_wp2_with fail
  go_loopw [5, 6] (fun v i wr => ∃ k : Nat, i = .int .i64 k ∧ k ≤ n ∧ wr.ownsRow w.heap.size 3 1 v (sbs k b).length ((sbs k b).map nat64) ∧ Below w.heap.size w wr) (fun _ i _ => n - (intOf i).toNat)
  case atStart => exact ⟨0, rfl, by omega, World.ownsRow_nil _ _ _ _, Below.refl _ _⟩
  case round =>
    obtain ⟨k, rfl, hk, hown, hbl⟩ := hrel
    by_cases hkn : k < n
    · have hk' : (k : Int) < n := by omega
      have hk0 : (0 : Int) ≤ k := by omega
      have hk64 : (k : Int) ≤ 64 := by omega
      have hba := bit_and ⟨b, hb⟩ ⟨k, by omega⟩
      simp only at hba
      have hsl := sbs_len k b
      cases hbit : b.testBit k
      · rw [hbit] at hba
        have HS : Hid (sbs (k + 1) b = sbs k b) := by unfold Hid; rw [sbs_succ, hbit, if_neg (by simp), List.append_nil]
        clear hbit
        go_wp2_with fail
        go_roundw
        case rel => exact ⟨k + 1, by go_num, by omega, by rw [HS.out]; exact hown, hbl⟩
        case measure => simp [intOf]; omega
      · rw [hbit] at hba
        have HS : Hid (sbs (k + 1) b = sbs k b ++ [k]) := by unfold Hid; rw [sbs_succ, hbit, if_pos rfl]
        clear hbit
        have hka : RdE nat64 (wr.alloc (.cells #[.int .i64 (k : Int)] 3)) (some ⟨wr.heap.size, 0, none⟩) [k] := RdE.bk (Bk.new _ _ _) rfl
        obtain ⟨v2, w5, hrun, hown2, hg5⟩ := app_nat (c := 1) (own_old hown (w' := wr.alloc (.cells #[.int .i64 (k : Int)] 3)) (by (repeat (first | with_reducible exact Below.refl _ _ | with_reducible refine bl_drewN ?_ _ | with_reducible refine Below.drew ?_ | with_reducible refine bl_alloc ?_ _ | with_reducible refine Below.alloc ?_ (by first | omega | (simp; done) | (simp; omega)) _ | with_reducible refine Below.setCell ?_ (by first | omega | (simp; done) | (simp; omega)) _ | with_reducible assumption)))) hka (by simp; omega) (by have := hbl.size; simp; omega)
        change (Builtin.append_ #[22, 22] 22 #[_, .slice (some ⟨wr.heap.size, 0, none⟩) 1 1]).run Try.prog (wr.alloc (.cells #[.int .i64 (k : Int)] 3)) = _ at hrun
        have hb5 : Below w.heap.size w w5 := (show Below w.heap.size w (wr.alloc (.cells #[.int .i64 (k : Int)] 3)) by (repeat (first | with_reducible exact Below.refl _ _ | with_reducible refine bl_drewN ?_ _ | with_reducible refine Below.drew ?_ | with_reducible refine bl_alloc ?_ _ | with_reducible refine Below.alloc ?_ (by first | omega | (simp; done) | (simp; omega)) _ | with_reducible refine Below.setCell ?_ (by first | omega | (simp; done) | (simp; omega)) _ | with_reducible assumption))).grown hg5 (by have := hbl.size; simp; omega) fun q hq => (hown.lt q hq).1
        rw [← HS.out] at hown2
        clear hka hg5 hown
        go_wp2_with (at_builtin; refine wpList_append_run rfl (.tmp 18) (.tmp 20) 22 rfl _ (.slice (some ⟨wr.heap.size, 0, none⟩) 1 1) rfl rfl v2 w5 (by exact hrun) ?_)
        go_roundw
        case rel => exact ⟨k + 1, by go_num, by omega, hown2, hb5⟩
        case measure => simp [intOf]; omega
    · obtain rfl : k = n := by omega
      obtain ⟨A, c, hv, hrd, ha⟩ := own_enc hown
      have HV := Lib.hid hv
      clear hv hown
      go_wp2_with fail
      go_ret
      exact ⟨A, c, by rw [HV.out]; rfl, hrd, hbl⟩
/-- One of the first b sets has too few seats. -/
def anyS (rs : List Rm) (ns : List Nd) (b : Nat) : Bool := (List.range b).any fun i => shr rs ns ((sbs ns.length i).map fun x : Nat => (x : Int))
theorem anyS_succ (rs : List Rm) (ns : List Nd) (b : Nat) : anyS rs ns (b + 1) = (anyS rs ns b || shr rs ns ((sbs ns.length b).map fun x : Nat => (x : Int))) := by
  unfold anyS
  rw [List.range_succ, List.any_append]
  simp
theorem anyS_short {rs : List Rm} {ns : List Nd} {l : List Int} (h : shr rs ns l = true) : anyS rs ns (2 ^ ns.length) = true := by
  have h' := h
  unfold shr at h
  rw [Bool.and_eq_true, Bool.and_eq_true] at h
  obtain ⟨b, hb, rfl⟩ := sbs_all (alln_at h.2.1)
  unfold anyS
  rw [List.any_eq_true]
  exact ⟨b, List.mem_range.2 hb, h'⟩
theorem anyS_all {rs : List Rm} {ns : List Nd} {v : Int} {q : List Int} {p : List Pc} (h : asg rs ns v q = (p, 0)) (b : Nat) : anyS rs ns b = false := by
  unfold anyS
  rw [List.any_eq_false]
  intro i _ hs
  exact hall h hs
theorem chk_good {rs : List Rm} {ns : List Nd} {v : Int} (h1 : rs.length ≤ 8) (h2 : ns.length ≤ 60) (hv : 2 ≤ v ∧ v ≤ 4) (h3 : ∀ r, r ∈ rs → rmB r = true ∧ cfB r = true) (h4 : ∀ i, i < ns.length → ndB (ge ns i) = true ∧ dpB ns i = true) : chk rs ns v = 0 :=
  chk_0 (by omega) ((ins_iff _ _ _).2 hv) (fun i hi => (h3 _ (ge_mem rs i hi)).1) (fun i hi => (h4 i hi).1) (fun i hi => (h3 _ (ge_mem rs i hi)).2) fun i hi => (h4 i hi).2
set_option maxHeartbeats 4000000 in
theorem either_st (l : List Int) (A : Option Addr) (c : Nat) (w : World) (hr : RdI w .i64 A l) (hl : l.length ≤ maxLen) (hlc : l.length ≤ c) (hi : ∀ n ∈ l, I64 n) :
    Calls Try.prog 12 #[.slice A l.length c] w fun e w' => e = .returned (.bool true) ∧ Below w.heap.size w w' := by
  have HN := Lib.hid (new_any l A c w hr hl hlc hi)
  clear hr hl hlc hi
  go_enter Try.func12, Try.ntmps12
  go_wp2_with fail
  refine HN.out.mono ?_
  rintro e w1 ⟨rfl, ht1, hb1⟩
  clear HN
  go_wp2_with fail
  refine (rooms_any w.heap.size 0 _ ht1 (by omega)).mono ?_
  rintro e w2 ⟨rs, A1, c1, rfl, hl1, -, hgr, hr1, ha1, ht2, hg2⟩
  go_wp2_with fail
  refine (needs_any w.heap.size 0 _ ht2 (by omega)).mono ?_
  rintro e w3 ⟨ns, A2, c2, rfl, hl2, -, hgn, hr2, ha2, ht3, hg3⟩
  have hr1' := rdr_turn hr1 hg3 ha1 (ht1.lt)
  have hb2 : Below w.heap.size w w2 := hb1.grown hg2 hb1.size fun q hq => by cases hq; exact Nat.le_refl _
  have hb3 : Below w.heap.size w w3 := hb2.grown hg3 hb2.size fun q hq => by cases hq; exact Nat.le_refl _
  obtain ⟨hn7, hgn2⟩ := hgn (by first | rfl | trivial)
  have HC := Lib.hid (chk_good (v := 3) (rs := rs) (ns := ns) (by omega) (by omega) (by omega) (hgr (by first | rfl | trivial)) hgn2)
  have m1 : rs.length ≤ maxLen := by unfold maxLen; omega
  have m2 : ns.length ≤ maxLen := by unfold maxLen; omega
  have HP := Lib.hid (place_any rs ns 3 A1 A2 c1 c2 w3 m1 m2 hr1' hr2)
  have HR1 := Lib.hid hr1'
  have HR2 := Lib.hid hr2
  clear hb1 hb2 ht1 hr1 ha1 ht2 hg2 hr2 ha2 ht3 hg3 hr1' hgr hgn hgn2
  obtain ⟨M, hM⟩ : ∃ M : Nat, 2 ^ ns.length = M := ⟨_, rfl⟩
  have hM128 : M ≤ 128 := by rw [← hM]; exact Nat.pow_le_pow_right (by omega) hn7
  have HM := Lib.hid hM
  have hp1 : (2 : Int) ^ ns.length = (M : Int) := by rw [← hM]; exact (Int.natCast_pow 2 ns.length).symm
  have hp2 : IntKind.i64.wrap (M : Int) = (M : Int) := IntWalk.i64_in _ (by omega)
  have hn64 : (ns.length : Int) ≤ 64 := by omega
  clear hM
  go_wp2_with fail
  refine HP.out.mono ?_
  rintro e w4 hp
  clear HP
  rcases hp with ⟨hc, _, _⟩ | ⟨_, l4, A4, c4, rfl, _, hs4, _, hb4⟩ | ⟨_, q, hq, hql, A4, c4, rfl, hr4, hb4⟩
  · exact absurd HC.out hc
  · have HSH : Hid (anyS rs ns M = true) := by rw [← HM.out]; exact anyS_short hs4
    have PS : Hid (∀ (V : World) (t : List Nat) (B : Option Addr) (cB : Nat), t.length ≤ 1000 → Below w4.heap.size w4 V → RdE nat64 V B t → Calls Try.prog 33 #[.slice A1 rs.length c1, .slice A2 ns.length c2, .slice B t.length cB] V fun e w' => e = .returned (.bool (shr rs ns (t.map fun x : Nat => (x : Int)))) ∧ Below V.heap.size V w') := fun V t B cB ht hV hB => by
      have h := short_any rs ns (t.map fun x : Nat => (x : Int)) A1 A2 B c1 c2 cB V m1 m2 (by unfold maxLen; simp; omega) (HR1.out.old (bl_trans hb4 hV)) (HR2.out.old (bl_trans hb4 hV)) (rde_ints hB)
      rwa [List.length_map] at h
    have hb5 := bl_trans hb3 hb4
    clear hs4 hb3 hb4
    go_wp2_with fail
    go_loopw [9, 10] (fun y x wr => ∃ b : Nat, b ≤ M ∧ x = .int .i64 b ∧ y = .bool (anyS rs ns b) ∧ Below w4.heap.size w4 wr) (fun _ x _ => M - (intOf x).toNat)
    case atStart => exact ⟨0, Nat.zero_le _, rfl, rfl, Below.refl _ _⟩
    case round =>
      obtain ⟨b, hbM, rfl, rfl, hb⟩ := hrel
      by_cases hlt : b < M
      · have hlt' : (b : Int) < M := by omega
        have hb0 : (0 : Int) ≤ b := by omega
        have HAS := Lib.hid (anyS_succ rs ns b)
        cases ha : anyS rs ns b
        · rw [ha, Bool.false_or] at HAS
          clear ha
          go_wp2_with fail
          refine (subset_any ns.length b hn7 (by omega) _).mono ?_
          rintro e w5 ⟨A5, c5, rfl, hr5, hb5⟩
          have hb6 := bl_trans hb hb5
          have hsh := PS.out w5 (sbs ns.length b) A5 c5 (by have := sbs_len ns.length b; omega) hb6 hr5
          have Hsh := Lib.hid hsh
          clear hsh hr5
          go_wp2_with fail
          refine Hsh.out.mono ?_
          rintro e w7 ⟨rfl, hb7⟩
          have hb8 := bl_trans hb6 hb7
          go_wp2_with fail
          go_roundw
          case rel => exact ⟨b + 1, by omega, by go_num, by rw [HAS.out], hb8⟩
          case measure => simp [intOf]; omega
        · rw [ha, Bool.true_or] at HAS
          clear ha
          go_wp2_with fail
          go_roundw
          case rel => exact ⟨b + 1, by omega, by go_num, by rw [HAS.out], hb⟩
          case measure => simp [intOf]; omega
      · obtain rfl : b = M := by omega
        rw [HSH.out]
        go_wp2_with fail
        refine (awake_any _).mono ?_
        rintro e w8 ⟨rfl, hb8⟩
        have hb9 := bl_trans (bl_trans hb5 hb) hb8
        go_wp2_with fail
        go_ret
        exact ⟨rfl, hb9⟩
  · have HSH : Hid (anyS rs ns M = false) := anyS_all hq M
    have PS : Hid (∀ (V : World) (t : List Nat) (B : Option Addr) (cB : Nat), t.length ≤ 1000 → Below w4.heap.size w4 V → RdE nat64 V B t → Calls Try.prog 33 #[.slice A1 rs.length c1, .slice A2 ns.length c2, .slice B t.length cB] V fun e w' => e = .returned (.bool (shr rs ns (t.map fun x : Nat => (x : Int)))) ∧ Below V.heap.size V w') := fun V t B cB ht hV hB => by
      have h := short_any rs ns (t.map fun x : Nat => (x : Int)) A1 A2 B c1 c2 cB V m1 m2 (by unfold maxLen; simp; omega) (HR1.out.old (bl_trans hb4 hV)) (HR2.out.old (bl_trans hb4 hV)) (rde_ints hB)
      rwa [List.length_map] at h
    have PR : Hid (∀ V, Below w4.heap.size w4 V → Calls Try.prog 30 #[.slice A1 rs.length c1, .slice A2 ns.length c2, .int .i64 3, .slice A4 ns.length c4] V fun e w' => e = .returned (.bool true) ∧ Below V.heap.size V w') := fun V hV => by
      have h := right_any rs ns 3 (asl rs ns 3 q ns.length) A1 A2 A4 c1 c2 c4 V m1 m2 (by rw [asl_len]; exact m2) (HR1.out.old (bl_trans hb4 hV)) (HR2.out.old (bl_trans hb4 hV)) (hr4.old hV) (asl_I hq)
      rw [asg_right hq, asl_len] at h
      exact h
    have hb5 := bl_trans hb3 hb4
    clear hq hql hr4 hb3 hb4
    go_wp2_with fail
    go_loopw [9, 10] (fun y x wr => ∃ b : Nat, b ≤ M ∧ x = .int .i64 b ∧ y = .bool (anyS rs ns b) ∧ Below w4.heap.size w4 wr) (fun _ x _ => M - (intOf x).toNat)
    case atStart => exact ⟨0, Nat.zero_le _, rfl, rfl, Below.refl _ _⟩
    case round =>
      obtain ⟨b, hbM, rfl, rfl, hb⟩ := hrel
      by_cases hlt : b < M
      · have hlt' : (b : Int) < M := by omega
        have hb0 : (0 : Int) ≤ b := by omega
        have HAS := Lib.hid (anyS_succ rs ns b)
        cases ha : anyS rs ns b
        · rw [ha, Bool.false_or] at HAS
          clear ha
          go_wp2_with fail
          refine (subset_any ns.length b hn7 (by omega) _).mono ?_
          rintro e w5 ⟨A5, c5, rfl, hr5, hb5⟩
          have hb6 := bl_trans hb hb5
          have hsh := PS.out w5 (sbs ns.length b) A5 c5 (by have := sbs_len ns.length b; omega) hb6 hr5
          have Hsh := Lib.hid hsh
          clear hsh hr5
          go_wp2_with fail
          refine Hsh.out.mono ?_
          rintro e w7 ⟨rfl, hb7⟩
          have hb8 := bl_trans hb6 hb7
          go_wp2_with fail
          go_roundw
          case rel => exact ⟨b + 1, by omega, by go_num, by rw [HAS.out], hb8⟩
          case measure => simp [intOf]; omega
        · rw [ha, Bool.true_or] at HAS
          clear ha
          go_wp2_with fail
          go_roundw
          case rel => exact ⟨b + 1, by omega, by go_num, by rw [HAS.out], hb⟩
          case measure => simp [intOf]; omega
      · obtain rfl : b = M := by omega
        rw [HSH.out]
        go_wp2_with fail
        refine (PR.out _ hb).mono ?_
        rintro e w7 ⟨rfl, hb7⟩
        have hb10 := bl_trans (bl_trans hb5 hb) hb7
        go_wp2_with fail
        refine (awake_any _).mono ?_
        rintro e w8 ⟨rfl, hb8⟩
        have hb9 := bl_trans hb10 hb8
        go_wp2_with fail
        go_ret
        exact ⟨rfl, hb9⟩
end Go.Proofs.Ytcidpgjeddogmaa.Pl
