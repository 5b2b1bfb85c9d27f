/- Walk: the statement SeatingRight (DRAFT: the part behind ref15.Assign is not walked). -/
import Derived.Test.YtcidpgjeddogmaaWZ
import Derived.WalkKit
import Derived.WalkSpells
import Derived.WalkLawsBesides
import Derived.Deep.QuietTactic
import Derived.BigQuiet
import Derived.Deep.Draws
import Derived.Deep.AppendLies
import Derived.Laws.OwnMore
import Derived.Laws.BytesArg
import Derived.Lib.Hide
import Derived.Deep.LoopGhost
namespace Go.Proofs.Ytcidpgjeddogmaa.Pl
open Go.RowKit
open Go.Proofs.Ytcidpgjeddogmaa.Mw
open Go.Proofs.Ytcidpgjeddogmaa.St
open Go.Proofs.Ytcidpgjeddogmaa.Tm (cut_any Tp TI TB next_any range_any one_any new_any)
set_option linter.unusedVariables false
set_option linter.unusedSimpArgs false

set_option maxHeartbeats 8000000 in
set_option maxRecDepth 100000 in
theorem right_st (l : List Int) (A : Option Addr) (c : Nat) (ps : List Pc) (D : Option Addr) (cD : Nat) (w : World) (hr : RdI w .i64 A l) (hl : l.length ≤ maxLen) (hlc : l.length ≤ c) (hi : ∀ n ∈ l, I64 n) (hps : RdR 5 pcl w D ps) (hpl : ps.length ≤ maxLen) (hpi : ∀ p, p ∈ ps → PcI p) :
    Calls Try.prog 9 #[.slice A l.length c, .slice D ps.length cD] w fun e w' => e = .returned (.bool true) ∧ Below w.heap.size w w' := by
  have HN := Lib.hid (new_any l A c w hr hl hlc hi)
  have HS := Lib.hid hps
  have HSI := Lib.hid hpi
  have HSL := Lib.hid hpl
  unfold maxLen at hpl
  clear hr hl hlc hi hps hpi
  go_enter Try.func9, Try.ntmps9
  go_wp2_with fail
  refine HN.out.mono ?_
  rintro e w1 ⟨rfl, ht1, hb1⟩
  clear HN
  go_wp2_with fail
  refine (rooms_any w.heap.size 12 _ ht1 (by omega)).mono ?_
  rintro e w2 ⟨rs, A1, c1, rfl, hl1, -, -, hr1, ha1, ht2, hg2⟩
  go_wp2_with fail
  refine (needs_any w.heap.size 12 _ ht2 (by omega)).mono ?_
  rintro e w3 ⟨ns, A2, c2, rfl, hl2, -, -, hr2, ha2, ht3, hg3⟩
  have hr1' := rdr_turn hr1 hg3 ha1 (ht1.lt)
  have hb2 : Below w.heap.size w w2 := hb1.grown hg2 hb1.size fun q hq => by cases hq; exact Nat.le_refl _
  have hb3 : Below w.heap.size w w3 := hb2.grown hg3 hb2.size fun q hq => by cases hq; exact Nat.le_refl _
  have t1lt := ht1.lt
  have t2lt := ht2.lt
  clear hb1 hb2 ht1 hr1 ht2 hg2 hg3
  go_wp2_with fail
  refine (range_any w.heap.size 2 4 _ ht3 (by omega) (by omega) (by omega)).mono ?_
  rintro e w4 ⟨v, hv, rfl, ht4, hg4⟩
  have hb4 : Below w.heap.size w w4 := hb3.grown hg4 hb3.size fun q hq => by cases hq; exact Nat.le_refl _
  have hr1'' := rdr_turn hr1' hg4 ha1 t1lt
  have hr2' := rdr_turn hr2 hg4 ha2 t2lt
  obtain ⟨w5, hmk, hb5, T1⟩ := make_ints rs.length (by omega) w4
  have HR1 := Lib.hid hr1''
  have HR2 := Lib.hid hr2'
  have HT4 := Lib.hid ht4
  have HB4 := Lib.hid hb4
  have T2 : Bk w5 w4.heap.size 3 (rng rs.length fun r => .int .i64 ((fun _ => (0 : Int)) r)) := T1
  have hg45 : w4.heap.size < w5.heap.size := T1.lt
  have htl : w.heap.size < w4.heap.size := ht4.lt
  clear hr1' hr1'' hr2 hr2' hg4 hb3 hb4 ht3 ht4 T1
  go_wp2_with fail
  clear hmk
  go_loopw [9, 11] (fun y x wr => ∃ (k : Nat) (z : List Int) (f : Nat → Int), k ≤ ns.length ∧ x = .int .i64 k ∧ z.length = k ∧ (∀ r, 0 ≤ f r ∧ f r ≤ k) ∧ Bk wr w4.heap.size 3 (rng rs.length fun r => .int .i64 (f r)) ∧ wr.ownsRow w5.heap.size 3 1 y z.length (z.map (Value.int .i64)) ∧ w5.heap.size ≤ wr.heap.size ∧ Below w4.heap.size w4 wr) (fun _ x _ => ns.length - (intOf x).toNat)
  case atStart => exact ⟨0, [], fun _ => 0, Nat.zero_le _, rfl, rfl, fun r => (by simp), T2, World.ownsRow_nil _ _ _ _, Nat.le_refl _, hb5⟩
  case round =>
    clear T2 hb5
    obtain ⟨k, z, f, hk, rfl, hz, hf, hT, ho, hs, hb⟩ := hrel
    have Hz := Lib.hid hz
    have hf' := Lib.hid hf
    clear hz hf
    by_cases hkn : k < ns.length
    · have hk' : (k : Int) < ns.length := by omega
      have hk0 : (0 : Int) ≤ k := by omega
      go_wp2_with fail
      go_loopw [12, 13] (fun y x wr => ∃ (a j : Nat), y = .int .i64 a ∧ x = .int .i64 j ∧ j ≤ rs.length ∧ (a < rs.length ∨ a = 0) ∧ Bk wr w4.heap.size 3 (rng rs.length fun r => .int .i64 (f r)) ∧ wr.ownsRow w5.heap.size 3 1 u9 z.length (z.map (Value.int .i64)) ∧ w5.heap.size ≤ wr.heap.size ∧ Below w4.heap.size w4 wr) (fun _ x _ => rs.length - (intOf x).toNat)
      case atStart => exact ⟨0, 0, rfl, rfl, Nat.zero_le _, .inr rfl, hT, ho, hs, hb⟩
      case round =>
        clear hT ho hs hb
        obtain ⟨a, j, rfl, rfl, hj, ha, hT, ho, hs, hb⟩ := hrel
        by_cases hjr : j < rs.length
        · have hj' : (j : Int) < rs.length := by omega
          have hj0 : (0 : Int) ≤ j := by omega
          obtain ⟨rb, ro, rfl, hrl, d0, d1, d2⟩ := rm_at (HR1.out.old hb) j hjr
          obtain ⟨nb, no, rfl, hnl, e0, e1⟩ := nd_at (HR2.out.old hb) k hkn
          have m0 : wr.cell? ⟨w4.heap.size, j, none⟩ = some (.int .i64 (f j)) := (hT.cell j).trans (rng_at hjr)
          have hTl := hT.lt
          cases hsu : sut (ge rs j) (ge ns k)
          · go_wp2_with fail
            refine Mm.region_ext (by kernel_rfl) (by kernel_rfl) ?_; (repeat (first | go_big_quiet_step ((go_at_call 24; exact Mm.calls_ext (rsuits_any (ge rs j) (ge ns k) _))) | quiet_step ((go_at_call 24; exact Mm.calls_ext (rsuits_any (ge rs j) (ge ns k) _))))); refine wpQuiet_nil ?_
            intro w8 hb8
            have hT8 := hT.old hb8
            have ho8 := own_old ho (hb8.mono (by omega))
            have hs8 : w5.heap.size ≤ w8.heap.size := Nat.le_trans hs hb8.size
            have hb9 := hb.trans (hb8.mono hb.size)
            go_wp2_with fail
            go_roundw
            case rel => exact ⟨a, j + 1, rfl, by go_num, by omega, by omega, hT8, ho8, hs8, hb9⟩
            case measure => simp [intOf]; omega
          · obtain ⟨Q, hQ⟩ : ∃ Q, IntKind.i64.wrap ((ge rs j).r * (ge rs j).c) = Q := ⟨_, rfl⟩
            by_cases hfl : f j < Q
            · have t1 : decide (f j < Q) = true := decide_eq_true hfl
              clear hfl
              go_wp2_with fail
              refine Mm.region_ext (by kernel_rfl) (by kernel_rfl) ?_; (repeat (first | go_big_quiet_step ((go_at_call 24; exact Mm.calls_ext (rsuits_any (ge rs j) (ge ns k) _))) | quiet_step ((go_at_call 24; exact Mm.calls_ext (rsuits_any (ge rs j) (ge ns k) _))))); refine wpQuiet_nil ?_
              intro w8 hb8
              have hT8 := hT.old hb8
              have ho8 := own_old ho (hb8.mono (by omega))
              have hs8 : w5.heap.size ≤ w8.heap.size := Nat.le_trans hs hb8.size
              have hb9 := hb.trans (hb8.mono hb.size)
              go_wp2_with fail
              go_roundw
              case rel => exact ⟨j, j + 1, rfl, by go_num, by omega, by omega, hT8, ho8, hs8, hb9⟩
              case measure => simp [intOf]; omega
            · have t1 : decide (f j < Q) = false := decide_eq_false hfl
              clear hfl
              go_wp2_with fail
              refine Mm.region_ext (by kernel_rfl) (by kernel_rfl) ?_; (repeat (first | go_big_quiet_step ((go_at_call 24; exact Mm.calls_ext (rsuits_any (ge rs j) (ge ns k) _))) | quiet_step ((go_at_call 24; exact Mm.calls_ext (rsuits_any (ge rs j) (ge ns k) _))))); refine wpQuiet_nil ?_
              intro w8 hb8
              have hT8 := hT.old hb8
              have ho8 := own_old ho (hb8.mono (by omega))
              have hs8 : w5.heap.size ≤ w8.heap.size := Nat.le_trans hs hb8.size
              have hb9 := hb.trans (hb8.mono hb.size)
              go_wp2_with fail
              go_roundw
              case rel => exact ⟨a, j + 1, rfl, by go_num, by omega, by omega, hT8, ho8, hs8, hb9⟩
              case measure => simp [intOf]; omega
        · by_cases hal : a < rs.length
          · have ha2 : (a : Int) < rs.length := by omega
            have ha0 : (0 : Int) ≤ a := by omega
            have m0 : wr.cell? ⟨w4.heap.size, a, none⟩ = some (.int .i64 (f a)) := (hT.cell a).trans (rng_at hal)
            have f0 := hT.frozen a
            have hTl := hT.lt
            have hfa := hf'.out a
            have hwa : IntKind.i64.wrap (f a + 1) = f a + 1 := IntWalk.i64_in _ (by omega)
            have hT7 : Bk (wr.setCell ⟨w4.heap.size, a, none⟩ (.int .i64 (f a + 1))) w4.heap.size 3 (rng rs.length fun r => .int .i64 ((fun r => if r = a then f a + 1 else f r) r)) := by
              have h := hT.set a (.int .i64 (f a + 1))
              rw [rng_set] at h
              rw [rng_congr (g := fun x => if x = a then .int .i64 (f a + 1) else .int .i64 (f x)) fun r _ => by by_cases e : r = a <;> simp [e]]
              exact h
            have ho7 := ho.kept (row := some w4.heap.size) (gb_set (gb_refl wr _) (p := ⟨w4.heap.size, a, none⟩) (.inl rfl) (.int .i64 (f a + 1))) (.inr fun e => by have := ho.lt _ e; omega)
            have hb7 : Below w4.heap.size w4 (wr.setCell ⟨w4.heap.size, a, none⟩ (.int .i64 (f a + 1))) := by (repeat (first | with_reducible exact Below.refl _ _ | with_reducible refine bl_drewN ?_ _ | with_reducible refine Below.drew ?_ | with_reducible refine bl_alloc ?_ _ | with_reducible refine Below.alloc ?_ (by first | omega | (simp; done) | (simp; omega)) _ | with_reducible refine Below.setCell ?_ (by first | omega | (simp; done) | (simp; omega)) _ | with_reducible assumption))
            have hs7 : w5.heap.size ≤ (wr.setCell ⟨w4.heap.size, a, none⟩ (.int .i64 (f a + 1))).heap.size := by simpa using hs
            go_upto_region 17 with fail
            generalize (wr.setCell ⟨w4.heap.size, a, none⟩ (.int .i64 (f a + 1))) = W at hT7 ho7 hb7 hs7 ⊢
            clear m0 f0 hT ho hb hwa
            have hTa := hT7.alloc (.cells #[.int .i64 (a : Int)] 3)
            have hoa := own_old ho7 ((Below.refl _ W).alloc (Nat.le_refl _) (.cells #[.int .i64 (a : Int)] 3))
            have hsa : w5.heap.size ≤ (W.alloc (.cells #[.int .i64 (a : Int)] 3)).heap.size := by simp; omega
            have hba : Below w4.heap.size w4 (W.alloc (.cells #[.int .i64 (a : Int)] 3)) := bl_alloc hb7 _
            obtain ⟨v2, wa, hrun, hown2, hga⟩ := app_int1 (x := (a : Int)) (g := W.heap.size) hoa (Bk.new _ _ _) (by have := Hz.out; omega) hsa
            have hTb := hTa.grown hga (fun e => by have := hoa.lt _ e.symm; omega)
            have hbb : Below w4.heap.size w4 wa := hba.grown hga (by omega) fun q hq => by have := (hoa.lt q hq).1; omega
            have hsb : w5.heap.size ≤ wa.heap.size := Nat.le_trans hsa hga.size
            clear hTa hoa hsa hba hga hT7 ho7 hb7
            go_wp2_with (at_builtin; refine wpList_append_run rfl (.tmp 78) (.tmp 80) 22 rfl _ (.slice (some ⟨W.heap.size, 0, none⟩) 1 1) rfl rfl v2 wa (by exact hrun) ?_)
            go_roundw
            case rel => exact ⟨k + 1, z ++ [(a : Int)], fun r => if r = a then f a + 1 else f r, by omega, by go_num, by have := Hz.out; simp; omega, fun r => by have := hf'.out r; have := hf'.out a; dsimp only; split <;> omega, hTb, hown2, hsb, hbb⟩
            case measure => simp [intOf]; omega
          · have t1 : decide ((a : Int) < rs.length) = false := decide_eq_false (by omega)
            have hTa := hT.alloc (.cells #[.int .i64 (a : Int)] 3)
            have hoa := own_old ho ((Below.refl _ wr).alloc (Nat.le_refl _) (.cells #[.int .i64 (a : Int)] 3))
            have hsa : w5.heap.size ≤ (wr.alloc (.cells #[.int .i64 (a : Int)] 3)).heap.size := by simp; omega
            have hba : Below w4.heap.size w4 (wr.alloc (.cells #[.int .i64 (a : Int)] 3)) := bl_alloc hb _
            obtain ⟨v2, wa, hrun, hown2, hga⟩ := app_int1 (x := (a : Int)) (g := wr.heap.size) hoa (Bk.new _ _ _) (by have := Hz.out; omega) hsa
            have hTb := hTa.grown hga (fun e => by have := hoa.lt _ e.symm; omega)
            have hbb : Below w4.heap.size w4 wa := hba.grown hga (by omega) fun q hq => by have := (hoa.lt q hq).1; omega
            have hsb : w5.heap.size ≤ wa.heap.size := Nat.le_trans hsa hga.size
            clear hTa hoa hsa hba hga hT ho hb
            go_wp2_with (at_builtin; refine wpList_append_run rfl (.tmp 78) (.tmp 80) 22 rfl _ (.slice (some ⟨wr.heap.size, 0, none⟩) 1 1) rfl rfl v2 wa (by exact hrun) ?_)
            go_roundw
            case rel => exact ⟨k + 1, z ++ [(a : Int)], f, by omega, by go_num, by have := Hz.out; simp; omega, fun r => by have := hf'.out r; omega, hTb, hown2, hsb, hbb⟩
            case measure => simp [intOf]; omega
    · have hkn' : k = ns.length := by omega
      obtain ⟨A3, c3, rfl, hrz, haz⟩ := own_ints ho
      have hbE := hb
      have hgA : w4.heap.size ≤ wr.heap.size := hb.size
      have Hl5 := Lib.hid hl1
      have Hl8 := Lib.hid hl2
      clear hT ho hb hs
      go_wp2_with fail
      refine (rassign_cap rs ns v z A1 A2 A3 c1 c2 c3 wr (by unfold maxLen; have := Hl5.out; omega) (by unfold maxLen; have := Hl8.out; omega) (by unfold maxLen; have := Hz.out; have := Hl8.out; omega) (HR1.out.old hbE) (HR2.out.old hbE) hrz).mono ?_
      rintro e w6 ⟨E, cE, rfl, hcE, hrl, hel, hfl, hb6⟩
      obtain ⟨hpc, hln⟩ := asg_pci rs ns v z
      generalize (asg rs ns v z).1 = l0 at *
      generalize (asg rs ns v z).2 = n0
      have hb46 : Below w4.heap.size w4 w6 := hbE.trans (hb6.mono hgA)
      have HT6 := HT4.out.old hb46
      have HA6 : RdRm w6 A1 rs := HR1.out.old hb46
      have HB6 : RdNd w6 A2 ns := HR2.out.old hb46
      have HW6 : Below w.heap.size w w6 := bl_trans HB4.out hb46
      clear hbE hb6 hrz haz
      by_cases hl0 : 0 < l0.length
      · obtain ⟨b, o, rfl, hbl, -⟩ := pc_at hrl 0 hl0
        have hl0' : (0 : Int) < l0.length := by omega
        have hlow : wr.heap.size ≤ b := (hel _ rfl).1
        have D0 : Ed w b o rs ns A1 A2 l0 w6 := ⟨HT6, HA6, HB6, hrl, hfl _ rfl, hbl, HW6, hpc, sf_of (w0 := w1) HR1.out (by omega) (fun _ => rfl) ha1 t1lt (by omega), sf_of (w0 := w2) HR2.out (by omega) (fun _ => rfl) ha2 t2lt (by omega), by omega⟩
        clear HT6 HA6 HB6 HW6 hrl hel hfl hbl hpc hb46
        go_wp2_with fail
        refine (next_any w.heap.size 2 _ D0.tape (by omega) (by omega)).mono ?_
        rintro e w7 ⟨x, hx, rfl, ht7, hg7⟩
        have D1 := D0.turn ht7 hg7
        clear D0 ht7 hg7
        by_cases hx0 : x = 0
        · subst hx0
          clear hx
          go_wp2_with fail
          refine (next_any w.heap.size l0.length _ D1.tape (by omega) (by have := Hl8.out; omega)).mono ?_
          rintro e w8 ⟨x, hx, rfl, ht8, hg8⟩
          have D2 := D1.turn ht8 hg8
          clear D1 ht8 hg8
          obtain ⟨i, rfl⟩ := Int.eq_ofNat_of_zero_le hx.1
          have hi0 : (0 : Int) ≤ i := hx.1
          have hi1 : (i : Int) < l0.length := hx.2
          have hi : i < l0.length := by omega
          clear hx
          go_wp2_with fail
          refine (next_any w.heap.size 5 _ D2.tape (by omega) (by omega)).mono ?_
          rintro e w9 ⟨y, hy, rfl, ht9, hg9⟩
          have D3 := D2.turn ht9 hg9
          clear D2 ht9 hg9
          by_cases hy0 : y = 0
          · subst hy0
            clear hy
            go_wp2_with fail
            refine (next_any w.heap.size l0.length _ D3.tape (by omega) (by have := Hl8.out; omega)).mono ?_
            rintro e wx ⟨x, hx, rfl, htx, hgx⟩
            have D4 := D3.turn htx hgx
            clear D3 htx hgx
            obtain ⟨j, rfl⟩ := Int.eq_ofNat_of_zero_le hx.1
            have hj0 : (0 : Int) ≤ j := hx.1
            have hj1 : (j : Int) < l0.length := hx.2
            have hj : j < l0.length := by omega
            clear hx
            have hfz := D4.fr
            obtain ⟨b', o', eq, hlt, a0, a1, a2, a3, a4⟩ := pc_at D4.li j hj
            cases eq
            obtain ⟨b', o', eq, -, d0, d1, d2, d3, d4⟩ := pc_at D4.li i hi
            cases eq
            have D5 := D4.set3 (o + i * 5 + 1) (o + i * 5 + 1 + 1) (o + i * 5 + 1 + 2) _ _ _ (rdp_s D4.li hi (ge l0 j).m (ge l0 j).r (ge l0 j).l) (pci_set D4.pc i (D4.pc (ge l0 j) (ge_mem hj)))
            have F := D5.fin (n := l0.length) (by rw [List.length_set]) Hl5.out Hl8.out (by have := Hl8.out; omega)
            clear D4 D5
            (
              have FP := F.args HS.out HSL.out HSI.out
              have FB := F.be
              by_cases h30 : 30 < ps.length
              · have h30' : (30 : Int) < ps.length := by omega
                go_wp2_with fail
                go_ret
                exact ⟨rfl, FB⟩
              · have h30' : ¬ (30 : Int) < ps.length := by omega
                go_wp2_with fail
                refine (fin_right v _ _ _ F _ (Below.refl _ _)).mono ?_
                rintro e wa ⟨rfl, hba⟩
                go_wp2_with fail
                refine (fin_rright v _ _ _ F _ hba).mono ?_
                rintro e wb ⟨rfl, hbb⟩
                have hbc := bl_trans hba hbb
                go_wp2_with fail
                refine (fin_right v _ _ _ FP _ hbc).mono ?_
                rintro e wc ⟨rfl, hbd⟩
                have hbe := bl_trans hbc hbd
                go_wp2_with fail
                refine (fin_rright v _ _ _ FP _ hbe).mono ?_
                rintro e wd ⟨rfl, hbf⟩
                have hbg := bl_trans hbe hbf
                go_wp2_with fail
                refine (awake_any _).mono ?_
                rintro e we ⟨rfl, hbh⟩
                have hbi := bl_trans FB (bl_trans hbg hbh)
                go_wp2_with fail
                go_ret
                exact ⟨rfl, hbi⟩
            )
          · by_cases hy1 : y = 1
            · subst hy1
              clear hy hy0
              go_wp2_with fail
              refine (next_any w.heap.size 4 _ D3.tape (by omega) (by omega)).mono ?_
              rintro e wx ⟨x, hx, rfl, htx, hgx⟩
              have D4 := D3.turn htx hgx
              clear D3 htx hgx hx
              have hfz := D4.fr
              obtain ⟨b', o', eq, hlt, d0, d1, d2, d3, d4⟩ := pc_at D4.li i hi
              cases eq
              have D5 := D4.set (o + i * 5 + 4) _ (rdp_v D4.li hi x) (pci_set D4.pc i (D4.pc (ge l0 i) (ge_mem hi)))
              have F := D5.fin (n := l0.length) (by rw [List.length_set]) Hl5.out Hl8.out (by have := Hl8.out; omega)
              clear D4 D5
              (
                have FP := F.args HS.out HSL.out HSI.out
                have FB := F.be
                by_cases h30 : 30 < ps.length
                · have h30' : (30 : Int) < ps.length := by omega
                  go_wp2_with fail
                  go_ret
                  exact ⟨rfl, FB⟩
                · have h30' : ¬ (30 : Int) < ps.length := by omega
                  go_wp2_with fail
                  refine (fin_right v _ _ _ F _ (Below.refl _ _)).mono ?_
                  rintro e wa ⟨rfl, hba⟩
                  go_wp2_with fail
                  refine (fin_rright v _ _ _ F _ hba).mono ?_
                  rintro e wb ⟨rfl, hbb⟩
                  have hbc := bl_trans hba hbb
                  go_wp2_with fail
                  refine (fin_right v _ _ _ FP _ hbc).mono ?_
                  rintro e wc ⟨rfl, hbd⟩
                  have hbe := bl_trans hbc hbd
                  go_wp2_with fail
                  refine (fin_rright v _ _ _ FP _ hbe).mono ?_
                  rintro e wd ⟨rfl, hbf⟩
                  have hbg := bl_trans hbe hbf
                  go_wp2_with fail
                  refine (awake_any _).mono ?_
                  rintro e we ⟨rfl, hbh⟩
                  have hbi := bl_trans FB (bl_trans hbg hbh)
                  go_wp2_with fail
                  go_ret
                  exact ⟨rfl, hbi⟩
              )
            · by_cases hy2 : y = 2
              · subst hy2
                clear hy hy0 hy1
                obtain ⟨b', o', eq, hlt, d0, d1, d2, d3, d4⟩ := pc_at D3.li i hi
                cases eq
                have hfz := D3.fr
                go_wp2_with fail
                have D3d := D3.drew
                go_region_with (go_at_call 25; refine (next_any w.heap.size 2 _ (by exact D3d.tape) (by omega) (by omega)).mono ?_; rintro e wx ⟨x, hx, rfl, htx, hgx⟩; have D4 := D3d.turn htx hgx; have hfx := D4.fr; obtain ⟨b', o', eq, hlt', p0, p1, p2, p3, p4⟩ := pc_at D4.li i hi; cases eq)
                all_goals
                  have D5 := D4.set (o + i * 5) _ (rdp_c D4.li hi (wrap64 ((ge l0 i).c + x))) (pci_set D4.pc i (D4.pc (ge l0 i) (ge_mem hi)))
                  have F := D5.fin (n := l0.length) (by rw [List.length_set]) Hl5.out Hl8.out (by have := Hl8.out; omega)
                  clear D4 D5 D3 D3d d0 d1 d2 d3 d4 hfz htx hgx
                  (
                    have FP := F.args HS.out HSL.out HSI.out
                    have FB := F.be
                    by_cases h30 : 30 < ps.length
                    · have h30' : (30 : Int) < ps.length := by omega
                      go_wp2_with fail
                      go_ret
                      exact ⟨rfl, FB⟩
                    · have h30' : ¬ (30 : Int) < ps.length := by omega
                      go_wp2_with fail
                      refine (fin_right v _ _ _ F _ (Below.refl _ _)).mono ?_
                      rintro e wa ⟨rfl, hba⟩
                      go_wp2_with fail
                      refine (fin_rright v _ _ _ F _ hba).mono ?_
                      rintro e wb ⟨rfl, hbb⟩
                      have hbc := bl_trans hba hbb
                      go_wp2_with fail
                      refine (fin_right v _ _ _ FP _ hbc).mono ?_
                      rintro e wc ⟨rfl, hbd⟩
                      have hbe := bl_trans hbc hbd
                      go_wp2_with fail
                      refine (fin_rright v _ _ _ FP _ hbe).mono ?_
                      rintro e wd ⟨rfl, hbf⟩
                      have hbg := bl_trans hbe hbf
                      go_wp2_with fail
                      refine (awake_any _).mono ?_
                      rintro e we ⟨rfl, hbh⟩
                      have hbi := bl_trans FB (bl_trans hbg hbh)
                      go_wp2_with fail
                      go_ret
                      exact ⟨rfl, hbi⟩
                  )
              · by_cases hy3 : y = 3
                · subst hy3
                  clear hy hy0 hy1 hy2
                  go_wp2_with fail
                  refine (range_any w.heap.size (-1) rs.length _ D3.tape (by omega) (by omega) (by have := Hl5.out; omega)).mono ?_
                  rintro e wx ⟨x, hx, rfl, htx, hgx⟩
                  have D4 := D3.turn htx hgx
                  clear D3 htx hgx
                  go_wp2_with fail
                  refine (range_any w.heap.size (-1) 2 _ D4.tape (by omega) (by omega) (by omega)).mono ?_
                  rintro e wy ⟨y, hy, rfl, hty, hgy⟩
                  have D5 := D4.turn hty hgy
                  clear D4 hty hgy
                  go_wp2_with fail
                  refine (range_any w.heap.size (-1) 3 _ D5.tape (by omega) (by omega) (by omega)).mono ?_
                  rintro e wz ⟨z', hz', rfl, htz, hgz⟩
                  have D6 := D5.turn htz hgz
                  clear D5 htz hgz
                  have hfz := D6.fr
                  obtain ⟨b', o', eq, hlt, d0, d1, d2, d3, d4⟩ := pc_at D6.li i hi
                  cases eq
                  have D7 := D6.set3 (o + i * 5 + 1) (o + i * 5 + 1 + 1) (o + i * 5 + 1 + 2) _ _ _ (rdp_s D6.li hi x y z') (pci_set D6.pc i ⟨by show I64 x; unfold I64; have := Hl5.out; omega, by show I64 y; unfold I64; omega, by show I64 z'; unfold I64; omega⟩)
                  clear D6
                  go_upto_region 31 with fail
                  generalize hWW : (((wz.setCell ⟨b, o + i * 5 + 1, none⟩ (.int .i64 x)).setCell ⟨b, o + i * 5 + 1 + 1, none⟩ (.int .i64 y)).setCell ⟨b, o + i * 5 + 1 + 2, none⟩ (.int .i64 z')) = W at D7 ⊢
                  clear hWW d0 d1 d2 d3 d4 hlt hfz
                  have hi' : i < (l0.set i { ge l0 i with m := x, r := y, l := z' }).length := by rw [List.length_set]; exact hi
                  have D8 := D7.drew
                  clear D7
                  obtain ⟨b', o', eq, hlt', e0, e1, e2, e3, e4⟩ := pc_at D8.li i hi'
                  rw [ge_set_eq hi] at e0 e1 e2 e3 e4
                  cases eq
                  have hfz := D8.fr
                  go_region_with (go_at_call 22; refine (rvariant_any y z' v _).mono ?_; rintro e wv ⟨rfl, rfl⟩)
                  all_goals
                    have D9 := D8.set (o + i * 5 + 4) _ (rdp_v D8.li hi' (var y z' v)) (pci_set D8.pc i (D8.pc (ge (l0.set i { ge l0 i with m := x, r := y, l := z' }) i) (ge_mem hi')))
                    have F := D9.fin (n := l0.length) (by rw [List.length_set, List.length_set]) Hl5.out Hl8.out (by have := Hl8.out; omega)
                    clear D8 D9 e0 e1 e2 e3 e4 hfz
                    (
                      have FP := F.args HS.out HSL.out HSI.out
                      have FB := F.be
                      by_cases h30 : 30 < ps.length
                      · have h30' : (30 : Int) < ps.length := by omega
                        go_wp2_with fail
                        go_ret
                        exact ⟨rfl, FB⟩
                      · have h30' : ¬ (30 : Int) < ps.length := by omega
                        go_wp2_with fail
                        refine (fin_right v _ _ _ F _ (Below.refl _ _)).mono ?_
                        rintro e wa ⟨rfl, hba⟩
                        go_wp2_with fail
                        refine (fin_rright v _ _ _ F _ hba).mono ?_
                        rintro e wb ⟨rfl, hbb⟩
                        have hbc := bl_trans hba hbb
                        go_wp2_with fail
                        refine (fin_right v _ _ _ FP _ hbc).mono ?_
                        rintro e wc ⟨rfl, hbd⟩
                        have hbe := bl_trans hbc hbd
                        go_wp2_with fail
                        refine (fin_rright v _ _ _ FP _ hbe).mono ?_
                        rintro e wd ⟨rfl, hbf⟩
                        have hbg := bl_trans hbe hbf
                        go_wp2_with fail
                        refine (awake_any _).mono ?_
                        rintro e we ⟨rfl, hbh⟩
                        have hbi := bl_trans FB (bl_trans hbg hbh)
                        go_wp2_with fail
                        go_ret
                        exact ⟨rfl, hbi⟩
                    )
                · clear hy
                  have hic : (i : Int) ≤ (cE : Int) := by omega
                  have hic2 : i ≤ cE := by omega
                  have F := (D3.take i).fin (n := i) (by rw [List.length_take]; omega) Hl5.out Hl8.out (by have := Hl8.out; omega)
                  clear D3
                  (
                    have FP := F.args HS.out HSL.out HSI.out
                    have FB := F.be
                    by_cases h30 : 30 < ps.length
                    · have h30' : (30 : Int) < ps.length := by omega
                      go_wp2_with fail
                      go_ret
                      exact ⟨rfl, FB⟩
                    · have h30' : ¬ (30 : Int) < ps.length := by omega
                      go_wp2_with fail
                      refine (fin_right v _ _ _ F _ (Below.refl _ _)).mono ?_
                      rintro e wa ⟨rfl, hba⟩
                      go_wp2_with fail
                      refine (fin_rright v _ _ _ F _ hba).mono ?_
                      rintro e wb ⟨rfl, hbb⟩
                      have hbc := bl_trans hba hbb
                      go_wp2_with fail
                      refine (fin_right v _ _ _ FP _ hbc).mono ?_
                      rintro e wc ⟨rfl, hbd⟩
                      have hbe := bl_trans hbc hbd
                      go_wp2_with fail
                      refine (fin_rright v _ _ _ FP _ hbe).mono ?_
                      rintro e wd ⟨rfl, hbf⟩
                      have hbg := bl_trans hbe hbf
                      go_wp2_with fail
                      refine (awake_any _).mono ?_
                      rintro e we ⟨rfl, hbh⟩
                      have hbi := bl_trans FB (bl_trans hbg hbh)
                      go_wp2_with fail
                      go_ret
                      exact ⟨rfl, hbi⟩
                  )
        · have F : Fin w rs ns A1 A2 (some ⟨b, o, none⟩) l0 l0.length w7 := D1.fin rfl Hl5.out Hl8.out (by have := Hl8.out; omega)
          clear D1
          (
            have FP := F.args HS.out HSL.out HSI.out
            have FB := F.be
            by_cases h30 : 30 < ps.length
            · have h30' : (30 : Int) < ps.length := by omega
              go_wp2_with fail
              go_ret
              exact ⟨rfl, FB⟩
            · have h30' : ¬ (30 : Int) < ps.length := by omega
              go_wp2_with fail
              refine (fin_right v _ _ _ F _ (Below.refl _ _)).mono ?_
              rintro e wa ⟨rfl, hba⟩
              go_wp2_with fail
              refine (fin_rright v _ _ _ F _ hba).mono ?_
              rintro e wb ⟨rfl, hbb⟩
              have hbc := bl_trans hba hbb
              go_wp2_with fail
              refine (fin_right v _ _ _ FP _ hbc).mono ?_
              rintro e wc ⟨rfl, hbd⟩
              have hbe := bl_trans hbc hbd
              go_wp2_with fail
              refine (fin_rright v _ _ _ FP _ hbe).mono ?_
              rintro e wd ⟨rfl, hbf⟩
              have hbg := bl_trans hbe hbf
              go_wp2_with fail
              refine (awake_any _).mono ?_
              rintro e we ⟨rfl, hbh⟩
              have hbi := bl_trans FB (bl_trans hbg hbh)
              go_wp2_with fail
              go_ret
              exact ⟨rfl, hbi⟩
          )
      · obtain rfl : l0 = [] := List.length_eq_zero_iff.1 (by omega)
        have F : Fin w rs ns A1 A2 E [] 0 w6 := ⟨HA6, HB6, RdR.nil _ _, HW6, hpc, by simp, rfl, by unfold maxLen; have := Hl5.out; omega, by unfold maxLen; have := Hl8.out; omega⟩
        clear HT6 HA6 HB6 HW6 hrl hel hfl hpc hb46 hl0 hln hcE
        rw [show ([] : List Pc).length = 0 from rfl]
        (
          have FP := F.args HS.out HSL.out HSI.out
          have FB := F.be
          by_cases h30 : 30 < ps.length
          · have h30' : (30 : Int) < ps.length := by omega
            go_wp2_with fail
            go_ret
            exact ⟨rfl, FB⟩
          · have h30' : ¬ (30 : Int) < ps.length := by omega
            go_wp2_with fail
            refine (fin_right v _ _ _ F _ (Below.refl _ _)).mono ?_
            rintro e wa ⟨rfl, hba⟩
            go_wp2_with fail
            refine (fin_rright v _ _ _ F _ hba).mono ?_
            rintro e wb ⟨rfl, hbb⟩
            have hbc := bl_trans hba hbb
            go_wp2_with fail
            refine (fin_right v _ _ _ FP _ hbc).mono ?_
            rintro e wc ⟨rfl, hbd⟩
            have hbe := bl_trans hbc hbd
            go_wp2_with fail
            refine (fin_rright v _ _ _ FP _ hbe).mono ?_
            rintro e wd ⟨rfl, hbf⟩
            have hbg := bl_trans hbe hbf
            go_wp2_with fail
            refine (awake_any _).mono ?_
            rintro e we ⟨rfl, hbh⟩
            have hbi := bl_trans FB (bl_trans hbg hbh)
            go_wp2_with fail
            go_ret
            exact ⟨rfl, hbi⟩
        )
end Go.Proofs.Ytcidpgjeddogmaa.Pl
