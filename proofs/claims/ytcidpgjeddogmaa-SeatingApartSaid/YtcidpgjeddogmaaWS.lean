/- Walk: the statement SeatingApart. -/
import Derived.Test.YtcidpgjeddogmaaWQ
import Derived.Test.YtcidpgjeddogmaaWR
import Derived.Test.YtcidpgjeddogmaaTU
import Derived.WalkKit
import Derived.WalkSpells
import Derived.WalkLawsBesides
import Derived.Deep.QuietTactic
import Derived.BigQuiet
import Derived.Deep.Draws
import Derived.Deep.AppendLies
import Derived.Laws.OwnMore
import Derived.Laws.BytesArg
import Derived.Lib.Hide
import Derived.Deep.LoopGhost
namespace Go.Proofs.Ytcidpgjeddogmaa.Pl
open Go.RowKit
open Go.Proofs.Ytcidpgjeddogmaa.Mw
open Go.Proofs.Ytcidpgjeddogmaa.St
open Go.Proofs.Ytcidpgjeddogmaa.Tm (cut_any Tp TI TB next_any range_any one_any new_any)
set_option linter.unusedVariables false
set_option linter.unusedSimpArgs false

theorem big_room : rmB ⟨3, 3, 62⟩ = true ∧ cfB ⟨3, 3, 62⟩ = true := by
  refine ⟨(rmB_iff _).2 ⟨by show (1 : Int) ≤ 3 ∧ (3 : Int) ≤ 8; omega, by show (1 : Int) ≤ 3 ∧ (3 : Int) ≤ 8; omega, by show (0 : Int) ≤ 62 ∧ (62 : Int) ≤ 63; omega⟩, cfB_s (by show sep 62 = false; decide)⟩
set_option maxHeartbeats 8000000 in
set_option maxRecDepth 100000 in
theorem apart_st (l : List Int) (A : Option Addr) (c : Nat) (v : Int) (w : World) (hr : RdI w .i64 A l) (hl : l.length ≤ maxLen) (hlc : l.length ≤ c) (hi : ∀ n ∈ l, I64 n) (hv : I64 v) :
    Calls Try.prog 13 #[.slice A l.length c, .int .i64 v] w fun e w' => e = .returned (.bool true) ∧ Below w.heap.size w w' := by
  have HN := Lib.hid (new_any l A c w hr hl hlc hi)
  have HC := Lib.hid (cut_any v 3 (by omega) (by omega) hv)
  have b5 := Int.emod_nonneg v (show (3 : Int) ≠ 0 by omega)
  have b6 := Int.emod_lt_of_pos v (show (0 : Int) < 3 by omega)
  generalize v % 3 = v' at HC b5 b6
  have ev : IntKind.i64.wrap (2 + v') = 2 + v' := IntWalk.i64_in _ (by omega)
  clear hr hl hlc hi hv
  go_enter Try.func13, Try.ntmps13
  go_wp2_with fail
  refine HN.out.mono ?_
  rintro e w1 ⟨rfl, ht1, hb1⟩
  clear HN
  go_wp2_with fail
  refine (rooms_own w.heap.size _ ht1).mono ?_
  rintro e w2 ⟨rs, y, rfl, hl1, hgr, ho2, ht2, hg2⟩
  go_wp2_with fail
  refine (needs_any w.heap.size 0 _ ht2 (by omega)).mono ?_
  rintro e w3 ⟨ns, A2, c2, rfl, hl2, -, hgn, hr2, ha2, ht3, hg3⟩
  have hlow := ho2.lt
  have ho3 := ho2.kept hg3 (.inr fun e => by have := ho2.lt w.heap.size e; have := ht1.lt; omega)
  have ho4 := own_old ho3 ((Below.refl _ w3).alloc (Nat.le_refl _) (.cells #[.int .i64 3, .int .i64 3, .int .i64 62] 35))
  have hb2 : Below w.heap.size w w2 := hb1.grown hg2 hb1.size fun q hq => by cases hq; exact Nat.le_refl _
  have hb3 : Below w.heap.size w w3 := hb2.grown hg3 hb2.size fun q hq => by cases hq; exact Nat.le_refl _
  have hb4 : Below w.heap.size w (w3.alloc (.cells #[.int .i64 3, .int .i64 3, .int .i64 62] 35)) := bl_alloc hb3 _
  have hs1 : w.heap.size < w1.heap.size := ht1.lt
  have hs3 : w1.heap.size ≤ (w3.alloc (.cells #[.int .i64 3, .int .i64 3, .int .i64 62] 35)).heap.size := by have := hg2.size; have := hg3.size; simp; omega
  have hr4 : RdNd (w3.alloc (.cells #[.int .i64 3, .int .i64 3, .int .i64 62] 35)) A2 ns := hr2.old ((Below.refl _ w3).alloc (Nat.le_refl _) _)
  obtain ⟨v2, w5, hrun, hown2, hg5⟩ := app_room (r := ⟨3, 3, 62⟩) (g := w3.heap.size) ho4 (Bk.new _ _ _) (by omega) hs3
  have hb5 : Below w.heap.size w w5 := hb4.grown hg5 hb4.size fun q hq => by have := hlow q hq; omega
  have hr5 : RdNd w5 A2 ns := by
    cases hy : y.ownBlock with
    | none =>
      rw [hy] at hg5
      exact hr4.old ((Below.refl _ _).grown hg5 (Nat.le_refl _) fun q hq => by cases hq)
    | some q =>
      rw [hy] at hg5
      exact hr4.grown hg5 fun a e => by have := ha2 a e; have := hlow q hy; omega
  obtain ⟨A1, c1, hv2, hlc1, hrd, -⟩ := own_rows rml_len (by omega) hown2
  subst hv2
  have hL : (rs ++ [(⟨3, 3, 62⟩ : Rm)]).length ≤ 6 := by simp; omega
  have hgr' : ∀ r, r ∈ rs ++ [(⟨3, 3, 62⟩ : Rm)] → rmB r = true ∧ cfB r = true := fun r hr => by
    rcases List.mem_append.1 hr with hr | hr
    · exact hgr r hr
    · have : r = ⟨3, 3, 62⟩ := by simpa using hr
      subst this; exact big_room
  obtain ⟨hn7, hgn2⟩ := hgn (by first | rfl | trivial)
  generalize hrs : rs ++ [(⟨3, 3, 62⟩ : Rm)] = rs' at hrun hown2 hrd hL hgr' hlc1
  have HCK := Lib.hid (chk_good (v := 2 + v') (rs := rs') (ns := ns) (by omega) (by omega) (by omega) hgr' hgn2)
  have m1 : rs'.length ≤ maxLen := by unfold maxLen; omega
  have m2 : ns.length ≤ maxLen := by unfold maxLen; omega
  have HP := Lib.hid (place_any rs' ns (2 + v') A1 A2 c1 c2 w5 m1 m2 hrd hr5)
  have HV : Hid (2 + v' = 2 ∨ 2 + v' = 3 ∨ 2 + v' = 4) := by unfold Hid; omega
  have hL' : (rs'.length : Int) ≤ 8 := by omega
  clear hb1 hb2 hb3 hb4 ht1 ht2 ht3 hg2 hg3 hg5 ho2 ho3 ho4 hown2 hr2 hr4 hr5 hrd ha2 hgn hgn2 hgr hgr' hlow hs1 hs3 hrs hl1 m1 m2 hlc1
  go_wp2_with (at_builtin; refine wpList_append_run rfl (.tmp 19) (.tmp 21) 25 rfl _ (.slice (some ⟨w3.heap.size, 0, none⟩) 1 1) rfl rfl (.slice A1 rs'.length c1) w5 (by exact hrun) ?_)
  clear hrun
  go_wp2_with fail
  refine (HC.out _).mono ?_
  rintro e w6 ⟨rfl, rfl⟩
  go_wp2_with fail
  refine HP.out.mono ?_
  rintro e w7 hp
  clear HP HC
  rcases hp with ⟨hc, _, _⟩ | ⟨_, l4, A4, c4, rfl, _, _, _, hb7⟩ | ⟨_, q, hq, hql, A4, c4, rfl, hr7, hb7⟩
  · exact absurd HCK.out hc
  · have hb8 := bl_trans hb5 hb7
    go_wp2_with fail
    refine (awake_any _).mono ?_
    rintro e w8 ⟨rfl, hb9⟩
    have hb10 := bl_trans hb8 hb9
    go_wp2_with fail
    go_ret
    exact ⟨rfl, hb10⟩
  · have HRG := Lib.hid (asg_right hq)
    have hlen := asl_len (rs := rs') (ns := ns) (v := 2 + v') (q := q) ns.length
    have hb8 := bl_trans hb5 hb7
    generalize asl rs' ns (2 + v') q ns.length = L at HRG hr7 hlen
    have HL := Lib.hid hlen
    have HD := Lib.hid hr7
    clear hq hql hlen hr7 hb5 hb7
    go_wp2_with fail
    go_loopw [11] (fun x wr => ∃ i : Nat, i ≤ ns.length ∧ x = .int .i64 i ∧ Below w7.heap.size w7 wr) (fun x _ => ns.length - (intOf x).toNat)
    case atStart => exact ⟨0, Nat.zero_le _, rfl, Below.refl _ _⟩
    case round =>
      obtain ⟨i, hi, rfl, hb⟩ := hrel
      by_cases hlt : i < ns.length
      · have hi' : (i : Int) < ns.length := by omega
        have hi0 : (0 : Int) ≤ i := by omega
        go_wp2_with fail
        go_loopw [12] (fun x wr => ∃ k : Nat, k ≤ i ∧ x = .int .i64 k ∧ Below w7.heap.size w7 wr) (fun x _ => i - (intOf x).toNat)
        case atStart => exact ⟨0, Nat.zero_le _, rfl, hb⟩
        case round =>
          clear hb
          obtain ⟨k, hk, rfl, hb⟩ := hrel
          by_cases hkl : k < i
          · have hk' : (k : Int) < i := by omega
            have hk1 : (k : Int) < ns.length := by omega
            have hk0 : (0 : Int) ≤ k := by omega
            have hiL : i < L.length := by rw [HL.out]; exact hlt
            have hkL : k < L.length := by rw [HL.out]; omega
            obtain ⟨b, off, rfl, hbl, p0, p1, p2, p3, p4⟩ := pc_at (HD.out.old hb) i hiL
            obtain ⟨b', off', e', hbl', q0, q1, q2, q3, q4⟩ := pc_at (HD.out.old hb) k hkL
            cases e'
            obtain ⟨x1, x2, -⟩ := rgt_at HRG.out i hiL
            obtain ⟨y1, y2, -⟩ := rgt_at HRG.out k hkL
            have HNB : Hid (∀ V, Calls Try.prog 39 #[.agg (sta (ge L i)), .agg (sta (ge L k))] V fun e w' => e = .returned (.bool (nbB (ge L i) (ge L k))) ∧ Below V.heap.size V w') := fun V => rnb_any _ _ x1 x2 y1 y2 V
            cases hnb : nbB (ge L i) (ge L k)
            · rw [hnb] at HNB
              clear hnb x1 x2 y1 y2 hiL hkL
              go_wp2_with fail
              refine Mm.region_ext (by kernel_rfl) (by kernel_rfl) ?_; (repeat (first | go_big_quiet_step ((go_at_call 39; exact Mm.calls_ext (HNB.out _))) | quiet_step ((go_at_call 39; exact Mm.calls_ext (HNB.out _))))); refine wpQuiet_nil ?_
              intro w8 hb8
              have hb9 := bl_trans hb hb8
              go_wp2_with fail
              go_roundw
              case rel => exact ⟨k + 1, by omega, by go_num, hb9⟩
              case measure => simp [intOf]; omega
            · have t1 := rgt_nb HRG.out HV.out hiL hkL hnb
              rw [hnb] at HNB
              clear hnb x1 x2 y1 y2 hiL hkL
              go_wp2_with fail
              refine Mm.region_ext (by kernel_rfl) (by kernel_rfl) ?_; (repeat (first | go_big_quiet_step ((go_at_call 39; exact Mm.calls_ext (HNB.out _))) | quiet_step ((go_at_call 39; exact Mm.calls_ext (HNB.out _))))); refine wpQuiet_nil ?_
              intro w8 hb8
              have hb9 := bl_trans hb hb8
              go_wp2_with fail
              go_roundw
              case rel => exact ⟨k + 1, by omega, by go_num, hb9⟩
              case measure => simp [intOf]; omega
          · obtain rfl : k = i := by omega
            go_wp2_with fail
            go_roundw
            case rel => exact ⟨k + 1, by omega, by go_num, hb⟩
            case measure => simp [intOf]; omega
      · obtain rfl : i = ns.length := by omega
        have hb9 := bl_trans hb8 hb
        go_wp2_with fail
        refine (awake_any _).mono ?_
        rintro e w8 ⟨rfl, hb10⟩
        have hb11 := bl_trans hb9 hb10
        go_wp2_with fail
        go_ret
        exact ⟨rfl, hb11⟩
end Go.Proofs.Ytcidpgjeddogmaa.Pl
