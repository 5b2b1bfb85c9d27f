/- Walk: identity.Near. -/
import Derived.Test.YtpdekglmmgecmaaUI
import Derived.WalkKit
import Derived.WalkSpells
import Derived.WalkLawsBesides
import Derived.Deep.QuietTactic
import Derived.BigQuiet
import Derived.Deep.Draws
import Derived.Deep.AppendLies
import Derived.Laws.OwnMore
import Derived.Laws.BytesArg
import Derived.Lib.Hide
import Derived.Deep.LoopGhost
import Derived.Deep.CutBlock
namespace Go.Proofs.Ytpdekglmmgecmaa.Id
open Go.RowKit
open Go.Proofs.Ytpdekglmmgecmaa.Mw (Bk RdE gb_of own_old own_enc own_frozen one_new gb_set gb_refl ge ge_lt wpList_append_run)
set_option linter.unusedSimpArgs false
set_option linter.unusedVariables false
set_option linter.unusedSimpArgs false

set_option maxHeartbeats 2000000 in
theorem near_size (s : ByteArray) (hs : s.size ≤ maxLen) (hl : s.size ≠ 9) (w : World) : Calls Try.prog 26 #[.string s] w (RetL (nearS s) w) := by
  have Hn := Lib.hid (nearS_no (s := s) (by unfold shpB; simp [hl]))
  go_enter Try.func26, Try.ntmps26
  go_wp2_with fail
  refine (wordOf_no s hs hl _).mono ?_
  rintro e w1 ⟨rfl, hb1⟩
  go_wp2_with fail
  go_ret
  rw [Hn.out]
  exact ⟨_, rfl, Sl.nil _, by (repeat (first | with_reducible exact Below.refl _ _ | with_reducible refine bl_drewN ?_ _ | with_reducible refine Below.drew ?_ | with_reducible refine bl_alloc ?_ _ | with_reducible refine Below.alloc ?_ (by first | omega | (simp; done) | (simp; omega)) _ | with_reducible refine Below.setCell ?_ (by first | omega | (simp; done) | (simp; omega)) _ | with_reducible assumption))⟩
set_option maxHeartbeats 2000000 in
theorem near_form (s : ByteArray) (hl : s.size = 9) (hf : formB (byt s) = false) (w : World) : Calls Try.prog 26 #[.string s] w (RetL (nearS s) w) := by
  have Hn := Lib.hid (nearS_no (s := s) (by unfold shpB; rw [hf]; simp))
  have H1 := Lib.hid (wordOf_yes s hl w)
  have H2 := Lib.hid (formed_any (byt s) (byt_bd s))
  clear hl
  obtain ⟨b, hb⟩ : ∃ b, byt s = b := ⟨_, rfl⟩
  rw [hb] at hf H1 H2
  rw [hf] at H2
  clear hb hf
  go_enter Try.func26, Try.ntmps26
  go_wp2_with fail
  refine H1.out.mono ?_
  rintro e w1 ⟨rfl, hb1⟩
  have B1 : Bk (w1.alloc (.cells (wc b) 43)) w1.heap.size 43 (wc b) := Bk.new _ _ _
  have hb2 : Below w.heap.size w (w1.alloc (.cells (wc b) 43)) := Mw.bl_alloc hb1 _
  go_upto_region 2 with fail
  generalize w1.alloc (.cells (wc b) 43) = V at B1 hb2 ⊢
  have hg := B1.lt
  clear hb1 H1
  obtain ⟨c0, c1, c2, c3, c4, c5, c6, c7, c8⟩ := bk9 B1
  go_wp2_with fail
  refine (H2.out _).mono ?_
  rintro e w2 ⟨rfl, hb3⟩
  go_wp2_with fail
  go_ret
  rw [Hn.out]
  exact ⟨_, rfl, Sl.nil _, Mw.bl_trans hb2 hb3⟩
set_option maxHeartbeats 2000000 in
set_option maxRecDepth 100000 in
theorem near_yes (s : ByteArray) (hl : s.size = 9) (hf : formB (byt s) = true) (w : World) : Calls Try.prog 26 #[.string s] w (RetL (nearS s) w) := by
  have Hn := Lib.hid (nearS_yes (s := s) (by unfold shpB; rw [hf]; simp [hl]))
  have H1 := Lib.hid (wordOf_yes s hl w)
  have H2 := Lib.hid (formed_any (byt s) (byt_bd s))
  clear hl
  obtain ⟨b, hb⟩ : ∃ b, byt s = b := ⟨_, rfl⟩
  rw [hb] at hf H1 H2 Hn
  rw [hf] at H2
  clear hb hf
  go_enter Try.func26, Try.ntmps26
  go_wp2_with fail
  refine H1.out.mono ?_
  rintro e w1 ⟨rfl, hb1⟩
  have B1 : Bk (w1.alloc (.cells (wc b) 43)) w1.heap.size 43 (wc b) := Bk.new _ _ _
  have hb2 : Below w.heap.size w (w1.alloc (.cells (wc b) 43)) := Mw.bl_alloc hb1 _
  go_upto_region 2 with fail
  generalize w1.alloc (.cells (wc b) 43) = V at B1 hb2 ⊢
  have hg := B1.lt
  clear hb1 H1
  obtain ⟨c0, c1, c2, c3, c4, c5, c6, c7, c8⟩ := bk9 B1
  go_wp2_with fail
  refine (H2.out _).mono ?_
  rintro e w2 ⟨rfl, hb3⟩
  have B2 := B1.old hb3
  have hb4 := Mw.bl_trans hb2 hb3
  have hg2 : w1.heap.size < w2.heap.size := B2.lt
  clear c0 c1 c2 c3 c4 c5 c6 c7 c8 H2 B1 hb2 hb3 hg
  go_wp2_with fail
  go_loopw [5, 19] (fun x j wr => ∃ i : Nat, i ≤ 9 ∧ j = .int .i64 i ∧ wr.ownsRow w2.heap.size 9 1 x (near b i).length ((near b i).map Value.string) ∧ Below w2.heap.size w2 wr) (fun _ j _ => 9 - (intOf j).toNat)
  case atStart => exact ⟨0, by omega, rfl, World.ownsRow_nil _ _ _ _, Below.refl _ _⟩
  case round =>
    obtain ⟨i, hi, rfl, hown, hb⟩ := hrel
    have B3 := B2.old hb
    have hg3 := B3.lt
    have hnl := near_len b i
    by_cases hlt : i < 9
    · have hi' : (i : Int) < 9 := by omega
      obtain ⟨c0, c1, c2, c3, c4, c5, c6, c7, c8⟩ := bk9 B3
      go_wp2_with fail
      refine (replaced_any b i hlt _).mono ?_
      rintro e w5 ⟨A, cA, rfl, hr, -, -, hb5⟩
      have own5 := own_old hown hb5
      have hb6 := Mw.bl_trans hb hb5
      have hrl := rp_len b i (cnt i)
      have hcl := cnt_le i
      obtain ⟨v7, w7, hrun, own7, g7⟩ := app_run (c := cA) own5 hr (by omega) hb6.size
      have hb7 := Below.grown hb6 g7 hb6.size (fun q hq => by have := (own5.lt q hq).1; omega)
      clear c0 c1 c2 c3 c4 c5 c6 c7 c8 hown own5 hb hb5 hb6 g7 hr B3 hg3
      go_wp2_with (at_builtin; refine wpList_append_run rfl (.tmp 22) (.tmp 25) 40 rfl _ _ rfl rfl v7 w7 (by exact hrun) ?_; clear hrun)
      go_roundw
      case rel => exact ⟨i + 1, by omega, by go_num, own7, hb7⟩
      case measure => simp [intOf]; omega
    · obtain rfl : i = 9 := by omega
      have hbw := Mw.bl_trans hb4 hb
      obtain ⟨A, cA, rfl, hr, hA⟩ := own_enc hown
      have hfr := own_frozen hown
      rcases A with _ | ⟨g, off, ff⟩
      · have h0 := Mw.rde_nil hr
        have hc0 : cA = 0 := by
          rcases hown.2 with ⟨h1, _⟩ | ⟨g, cap, cur, h1, _⟩
          · injection h1
          · cases h1
        have HN : Hid (nearS s = []) := by unfold Hid; rw [Hn.out, h0]; exact List.length_eq_zero_iff.1 (srt_len [])
        rw [h0]
        subst hc0
        clear h0 hown hr hA hfr
        go_wp2_with fail
        refine (sort_nil 0 _).mono ?_
        rintro e w6 ⟨rfl, rfl⟩
        go_wp2_with fail
        go_ret
        rw [HN.out]
        exact ⟨_, rfl, Sl.nil _, hbw⟩
      · have hf0 := hfr _ rfl
        have hA0 := hA _ rfl
        obtain ⟨hle, hcm, hff, hoff⟩ : (near b 9).length ≤ cA ∧ cA ≤ maxLen ∧ ff = none ∧ off = 0 := by
          rcases hown.2 with ⟨h1, _⟩ | ⟨g, cap, cur, h1, _, _, h2, h3, _⟩
          · cases h1
          · cases h1; exact ⟨h2, h3, rfl, rfl⟩
        subst hff hoff
        simp only at hA0
        have HA := Lib.hid hA0
        have HS := Lib.hid (srt_len (near b 9))
        clear hown hA hfr
        go_wp2_with fail
        refine (sort_any _ g 0 cA _ hr hf0 hA0.2 (by omega)).mono ?_
        rintro e w6 ⟨rfl, hr6, hg6⟩
        have hb6 : Below w.heap.size w w6 := Mw.bl_gb hbw hg6 (by have := hb4.size; omega)
        have hz6 := hg6.size
        clear hr hg6 hbw
        go_wp2_with fail
        go_ret
        rw [Hn.out]
        exact ⟨_, rfl, .inr ⟨g, 0, cA, by rw [HS.out]; rfl, by rw [HS.out]; exact hle, hcm, by have := HA.out; omega, hr6⟩, hb6⟩
theorem near_any (s : ByteArray) (hs : s.size ≤ maxLen) (w : World) : Calls Try.prog 26 #[.string s] w (RetL (nearS s) w) := by
  by_cases hl : s.size = 9
  · cases hf : formB (byt s)
    · exact near_form s hl hf w
    · exact near_yes s hl hf w
  · exact near_size s hs hl w
end Go.Proofs.Ytpdekglmmgecmaa.Id
