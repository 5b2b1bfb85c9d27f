/- Walk: the statement CertificateOne. -/
import Derived.Test.YtdikoffppjoomaaCZ
import Derived.WalkKit
import Derived.WalkSpells
import Derived.WalkLawsBesides
import Derived.Deep.QuietTactic
import Derived.BigQuiet
import Derived.Deep.Draws
import Derived.Deep.AppendLies
import Derived.Laws.OwnMore
import Derived.Laws.BytesArg
import Derived.Lib.Hide
import Derived.Deep.LoopGhost
namespace Go.Proofs.Ytdikoffppjoomaa.Ct
open Go.RowKit Go.Proofs.Ytdikoffppjoomaa.Dg
open Go.Proofs.Ytdikoffppjoomaa.Mw (I64 ret_int ret_bool Bk bl_trans own_ints RdI RdR ge ge_lt gi ge_mem own_rows bl_gb)
open Go.Proofs.Ytdikoffppjoomaa.Dc (Di DI DB next_any roll_any light_any)
set_option linter.unusedVariables false
set_option linter.unusedSimpArgs false
set_option maxRecDepth 100000

/-- How many of the first entries issue a certificate that is current. -/
def cntN (L : List Le) : Nat → Nat
  | 0 => 0
  | n + 1 => if (gE L n).k = 0 ∧ gon L (gE L n).f.i = false then cntN L n + 1 else cntN L n
theorem cnt_len (L : List Le) : ∀ n, (curN L n).length = cntN L n
  | 0 => rfl
  | n + 1 => by
    unfold curN cntN
    split
    · rw [len_ins, cnt_len L n]
    · exact cnt_len L n
theorem cnt_yes {L : List Le} {n : Nat} (h : (ge L n).k = 0 ∧ gon L (ge L n).f.i = false) : cntN L (n + 1) = cntN L n + 1 := if_pos h
theorem cnt_no {L : List Le} {n : Nat} (h : ¬ ((ge L n).k = 0 ∧ gon L (ge L n).f.i = false)) : cntN L (n + 1) = cntN L n := if_neg h
theorem cnt_le (L : List Le) (n : Nat) : cntN L n ≤ n := by rw [← cnt_len]; exact len_curN L n
theorem apn_take {l : List Le} (hV : V l) {k : Nat} (hk : k < l.length) : apn (l.take k) (ge l k) = (l.take (k + 1), 0) := by
  have h1 := V_take hV (k + 1)
  rw [take_gE hk] at h1
  obtain ⟨h2, h3⟩ := V_snoc.1 h1
  unfold apn
  rw [if_pos (chk_V h2), if_pos (show nxt (l.take k) (ge l k) = 0 from h3), take_ge hk]
theorem gon_step {l : List Le} {j : Nat} (hj : j < l.length) (id : Int) : gon (l.take (j + 1)) id = (gon (l.take j) id || gn1 (ge l j) id) := by rw [take_ge hj, gon_snoc]
/-- Two current certificates at different places. -/
theorem cur_apart {l : List Le} (hV : V l) {a b : Nat} (hab : a < b) (hb : b < (cur l).length) : (ge (cur l) a).i < (ge (cur l) b).i ∧ (ge (cur l) a).c ≠ (ge (cur l) b).c := by
  have h1 := asc_lt (asc_cur hV) hab hb
  refine ⟨h1, fun e => ?_⟩
  have h2 := (mem_cur hV).1 (ge_mem (cur l) a (by omega))
  have h3 := (mem_cur hV).1 (ge_mem (cur l) b hb)
  have := cu_one (inv_of hV) h2 h3 e
  omega
theorem prv_gone {l : List Le} (hV : V l) {x : Le} (hx : x ∈ l) (hk : x.k = 0) (hg : gon l x.f.i = true) : prv l x.f.i = (pv0, 46) := by
  unfold prv
  rw [if_pos (chk_V hV), if_pos (by rw [(inv_of hV).mem x hx hk]; rfl), if_pos hg]
theorem prv_ok {l : List Le} (hV : V l) {x : Le} (hx : x ∈ l) (hk : x.k = 0) (hg : gon l x.f.i = false) : prv l x.f.i = (pvo l x.f.i, 0) := by
  unfold prv
  rw [if_pos (chk_V hV), if_pos (by rw [(inv_of hV).mem x hx hk]; rfl), if_neg (by rw [hg]; simp)]
set_option maxHeartbeats 40000000 in
theorem one_any (l0 : List Int) (A0 : Option Addr) (c0 : Nat) (w : World) (hr : RdI w .i64 A0 l0) (hi : ∀ x ∈ l0, I64 x) :
    Calls Try.prog 3 #[.slice A0 l0.length c0] w fun e w' => e = .returned (.bool true) ∧ Below w.heap.size w w' := by
  by_cases hL : l0.length ≤ 600
  · have HL := Lib.hid (show ∀ W : World, Calls Try.prog 6 #[.slice A0 l0.length c0] W fun e w' => e = .returned (.bool true) ∧ W = w' from fun W => by have h6 := light_any l0 A0 c0 W; rwa [decide_eq_true hL] at h6)
    have HRo := Lib.hid (roll_any l0 A0 c0 w hr (by omega) hi)
    clear hr hi hL
    go_enter Try.func3, Try.ntmps3
    go_wp2_with fail
    refine (HL.out _).mono ?_
    rintro e w0 ⟨rfl, rfl⟩
    go_wp2_with fail
    refine HRo.out.mono ?_
    rintro e w1 ⟨rfl, hdi, hb1⟩
    clear HRo HL
    have HLg : Hid (Calls Try.prog 9 #[.pointer (some ⟨w.heap.size, 0, none⟩), .int .i64 12] w1 (LgP 12 w.heap.size w1)) := log_any w.heap.size 12 w1 hdi (by omega)
    go_wp2_with fail
    refine HLg.out.mono ?_
    rintro e w2 ⟨l, A, c, id, tm, rfl, hlc, hLI, hF⟩
    have hb2 : Below w.heap.size w w2 := bl_gb hb1 hF.gb (Nat.le_refl _)
    have hL2 := hF.rd
    have hV := hLI.v
    have h64 := le64_V hV
    have HV := Lib.hid hV
    have H64 := Lib.hid h64
    have HL2 := Lib.hid hL2
    have HCu := Lib.hid (show ∀ (W : World), RdL W A l → Calls Try.prog 11 #[.slice A l.length c] W (CE (cur l) W) from fun W h => by
      have := current_any l A c W h h64
      rwa [crr_0 (chk_V hV)] at this)
    have hll := hLI.len
    clear HLg hdi hb1 hF hLI hV h64 hL2
    go_wp2_with fail
    go_loopw [5, 32] (fun x i wr => ∃ (k : Nat) (B : Option Addr) (cB : Nat), k ≤ l.length ∧ i = .int .i64 k ∧ x = .slice B (l.take k).length cB ∧ RdL wr B (l.take k) ∧ Below w2.heap.size w2 wr) (fun _ i _ => l.length - (RowKit.intOf i).toNat)
    case atStart => exact ⟨0, none, 0, by omega, rfl, rfl, RdR.nil _ _, Below.refl _ _⟩
    case round =>
      obtain ⟨k, B, cB, hk, rfl, rfl, hB, hb⟩ := hrel
      by_cases hlt : k < l.length
      · have HA := Lib.hid (show ∀ (W : World), Below wr.heap.size wr W → Calls Try.prog 10 #[.slice B (l.take k).length cB, lev (ge l k)] W (AE (l.take (k + 1), 0) W) from fun W hbW => by
          have := append_any (l.take k) (ge l k) B cB W (hB.old hbW) (fun x hx => H64.out x (List.mem_of_mem_take hx)) (H64.out _ (ge_mem l k hlt))
          rwa [apn_take HV.out hlt] at this)
        obtain ⟨b, off, rfl, hbl, c0', c1, c2, c3, c4, c5⟩ := le_at (HL2.out.old hb) k hlt
        have hlt' : (k : Int) < l.length := by omega
        have e1 : (l.take k).length = k := by simp; omega
        have e2 : (l.take (k + 1)).length = k + 1 := by simp; omega
        rw [e1] at HA ⊢
        have HE2 := Lib.hid e2
        clear e1 hB
        go_wp2_with fail
        refine (HA.out _ (Mw.bl_alloc (Below.refl _ _) _)).mono ?_
        rintro e w5 ⟨B5, c5', rfl, hc5, hB5, -, hb5⟩
        have hb6 : Below w2.heap.size w2 w5 := bl_trans (Mw.bl_alloc hb _) hb5
        have hs5 : ((l.take (k + 1), (0 : Int)) : List Le × Int).1.length = k + 1 := HE2.out
        rw [hs5]
        clear HA hb5 hb c0' c1 c2 c3 c4 c5 hbl e2 hc5 hs5
        go_wp2_with fail
        go_roundw
        case rel => exact ⟨k + 1, B5, c5', by omega, by go_num, by rw [HE2.out] <;> rfl, hB5, hb6⟩
        case measure => simp [RowKit.intOf]; omega
      · clear hB hk
        go_wp2_with fail
        refine (HCu.out _ (HL2.out.old hb)).mono ?_
        rintro e w3 ⟨v, rfl, hown, hbq⟩
        obtain ⟨D, cD, rfl, hcD, hD, -⟩ := own_rows cfl_len (by omega) hown
        have HD := Lib.hid hD
        have hb3 := bl_trans hb hbq
        have hcl : (cur l).length ≤ 12 := by have := len_curN l l.length; unfold cur; omega
        have HAp := Lib.hid (fun a b => cur_apart HV.out (a := a) (b := b))
        have HCn : Hid ((cur l).length = cntN l l.length) := cnt_len l l.length
        generalize cur l = cu at *
        clear HCu hown hD hbq hb hcD
        go_wp2_with fail
        go_loopw [58] (fun i wv => ∃ (a : Nat), a ≤ cu.length ∧ i = .int .i64 a ∧ Below w3.heap.size w3 wv) (fun i _ => cu.length - (RowKit.intOf i).toNat)
        case atStart => exact ⟨0, by omega, rfl, Below.refl _ _⟩
        case round =>
          obtain ⟨a, ha, rfl, hbv⟩ := hrel
          by_cases hal : a < cu.length
          · have hDv := HD.out.old hbv
            obtain ⟨b2, off2, rfl, hbl2, e0, e1, e2, e3, e4⟩ := cf_at hDv a hal
            have hC5 : Bk (wr.alloc (.cells #[.int .i64 (ge cu a).i, .int .i64 (ge cu a).c, .int .i64 (ge cu a).g, .int .i64 (ge cu a).t, .int .i64 (ge cu a).r] 30)) wr.heap.size 30 #[.int .i64 (ge cu a).i, .int .i64 (ge cu a).c, .int .i64 (ge cu a).g, .int .i64 (ge cu a).t, .int .i64 (ge cu a).r] := Mw.Bk.new _ _ _
            have hD5 := hDv.alloc (.cells #[.int .i64 (ge cu a).i, .int .i64 (ge cu a).c, .int .i64 (ge cu a).g, .int .i64 (ge cu a).t, .int .i64 (ge cu a).r] 30)
            have hb5 := Mw.bl_alloc hbv (.cells #[.int .i64 (ge cu a).i, .int .i64 (ge cu a).c, .int .i64 (ge cu a).g, .int .i64 (ge cu a).t, .int .i64 (ge cu a).r] 30)
            have u0 : (a : Int) < cu.length := by omega
            go_wp2_with fail
            generalize wr.alloc (.cells #[.int .i64 (ge cu a).i, .int .i64 (ge cu a).c, .int .i64 (ge cu a).g, .int .i64 (ge cu a).t, .int .i64 (ge cu a).r] 30) = w5 at *
            generalize wr.heap.size = cb at *
            clear e0 e1 e2 e3 e4 hbl2 hDv hbv
            have d0 := hC5.cell 0
            have dl := hC5.lt
            by_cases ha0 : a = 0
            · have u1 : decide ((0 : Int) < (a : Int)) = false := decide_eq_false (by omega)
              have u2 : ¬ (0 : Int) < (a : Int) := by omega
              have u3 : decide (0 < a) = false := decide_eq_false (by omega)
              have u4 : ¬ 0 < a := by omega
              clear ha0
              refine Mm.region_ext (by kernel_rfl) (by kernel_rfl) ?_; (repeat (first | go_big_quiet_step (fail) | quiet_step (fail))); refine wpQuiet_nil ?_
              intro w6 hbq
              have hC6 := hC5.old hbq
              have hD6 := hD5.old hbq
              have hb6 := bl_trans hb5 hbq
              clear hC5 hD5 hb5 hbq d0 dl
              go_wp2_with fail
              clear u1 u2 u3 u4
              go_loopw [13] (fun kk wx => ∃ k : Nat, k ≤ a ∧ kk = .int .i64 k ∧ Below w6.heap.size w6 wx) (fun kk _ => a - (RowKit.intOf kk).toNat)
              case atStart => exact ⟨0, by omega, rfl, Below.refl _ _⟩
              case round =>
                obtain ⟨k, hka, rfl, hbx⟩ := hrel
                by_cases hkl : k < a
                · have hD7 := hD6.old hbx
                  have hC7 := hC6.old hbx
                  obtain ⟨b3, off3, hbe3, hbl3, f0, f1, f2, f3, f4⟩ := cf_at hD7 k (by omega)
                  cases hbe3
                  have d1 := hC7.cell 1
                  have dl := hC7.lt
                  have v0 : ((ge cu k).c == (ge cu a).c) = false := beq_eq_false_iff_ne.2 (HAp.out k a hkl hal).2
                  have v1 : (k : Int) < (a : Int) := by omega
                  have v2 : (k : Int) < (cu.length : Int) := by omega
                  have v3 : k < cu.length := by omega
                  go_wp2_with fail
                  refine Mm.region_ext (by kernel_rfl) (by kernel_rfl) ?_; (repeat (first | go_big_quiet_step (fail) | quiet_step (fail))); refine wpQuiet_nil ?_
                  intro w7 hb7
                  have hb8 := bl_trans hbx hb7
                  clear f0 f1 f2 f3 f4 d1 dl hD7 hC7 hbx hb7
                  go_wp2_with fail
                  go_roundw
                  case rel => exact ⟨k + 1, by omega, by go_num, hb8⟩
                  case measure => simp [RowKit.intOf]; omega
                · have v1 : ¬ (k : Int) < (a : Int) := by omega
                  have hbz := bl_trans hb6 hbx
                  clear hka
                  go_wp2_with fail
                  go_roundw
                  case rel => exact ⟨a + 1, by omega, by go_num, hbz⟩
                  case measure => simp [RowKit.intOf]; omega
            · obtain ⟨M, hM⟩ : ∃ M, M = a - 1 := ⟨_, rfl⟩
              obtain ⟨b3, off3, hbe, hbl3, e0, e1, e2, e3, e4⟩ := cf_at hD5 M (by omega)
              cases hbe
              have hw : IntKind.i64.wrap ((a : Int) - 1) = (M : Int) := by rw [IntWalk.i64_in _ (by omega)]; omega
              have u1 : decide ((0 : Int) < (a : Int)) = true := decide_eq_true (by omega)
              have u2 : (0 : Int) < (a : Int) := by omega
              have u3 : decide (0 < a) = true := decide_eq_true (by omega)
              have u4 : 0 < a := by omega
              have u5 : (0 : Int) ≤ (M : Int) := by omega
              have u6 : (M : Int) < cu.length := by omega
              have u7 : M < cu.length := by omega
              have hlt3 := (HAp.out M a (by omega) hal).1
              have u8 : decide ((ge cu a).i ≤ (ge cu M).i) = false := decide_eq_false (by omega)
              have u9 : ¬ (ge cu a).i ≤ (ge cu M).i := by omega
              clear hM ha0 hlt3
              refine Mm.region_ext (by kernel_rfl) (by kernel_rfl) ?_; (repeat (first | go_big_quiet_step (fail) | quiet_step (fail))); refine wpQuiet_nil ?_
              intro w6 hbq
              have hC6 := hC5.old hbq
              have hD6 := hD5.old hbq
              have hb6 := bl_trans hb5 hbq
              clear hC5 hD5 hb5 hbq d0 dl e0 e1 e2 e3 e4 hbl3
              go_wp2_with fail
              clear u1 u2 u3 u4 u5 u6 u7 u8 u9 hw
              go_loopw [13] (fun kk wx => ∃ k : Nat, k ≤ a ∧ kk = .int .i64 k ∧ Below w6.heap.size w6 wx) (fun kk _ => a - (RowKit.intOf kk).toNat)
              case atStart => exact ⟨0, by omega, rfl, Below.refl _ _⟩
              case round =>
                obtain ⟨k, hka, rfl, hbx⟩ := hrel
                by_cases hkl : k < a
                · have hD7 := hD6.old hbx
                  have hC7 := hC6.old hbx
                  obtain ⟨b3, off3, hbe3, hbl3, f0, f1, f2, f3, f4⟩ := cf_at hD7 k (by omega)
                  cases hbe3
                  have d1 := hC7.cell 1
                  have dl := hC7.lt
                  have v0 : ((ge cu k).c == (ge cu a).c) = false := beq_eq_false_iff_ne.2 (HAp.out k a hkl hal).2
                  have v1 : (k : Int) < (a : Int) := by omega
                  have v2 : (k : Int) < (cu.length : Int) := by omega
                  have v3 : k < cu.length := by omega
                  go_wp2_with fail
                  refine Mm.region_ext (by kernel_rfl) (by kernel_rfl) ?_; (repeat (first | go_big_quiet_step (fail) | quiet_step (fail))); refine wpQuiet_nil ?_
                  intro w7 hb7
                  have hb8 := bl_trans hbx hb7
                  clear f0 f1 f2 f3 f4 d1 dl hD7 hC7 hbx hb7
                  go_wp2_with fail
                  go_roundw
                  case rel => exact ⟨k + 1, by omega, by go_num, hb8⟩
                  case measure => simp [RowKit.intOf]; omega
                · have v1 : ¬ (k : Int) < (a : Int) := by omega
                  have hbz := bl_trans hb6 hbx
                  clear hka
                  go_wp2_with fail
                  go_roundw
                  case rel => exact ⟨a + 1, by omega, by go_num, hbz⟩
                  case measure => simp [RowKit.intOf]; omega
          · have HL3 : Hid (RdL wr A l) := (HL2.out.old hb3).old hbv
            have hb30 := bl_trans hb2 (bl_trans hb3 hbv)
            obtain ⟨w4, hw4⟩ : ∃ w4, w4 = wr := ⟨_, rfl⟩
            rw [← hw4] at HL3 hb30 ⊢
            clear hw4 ha
            go_wp2_with fail
            go_loopw [14, 92] (fun x jj wv => ∃ (j : Nat), j ≤ l.length ∧ jj = .int .i64 j ∧ x = .int .i64 (cntN l j : Int) ∧ Below w4.heap.size w4 wv) (fun _ jj _ => l.length - (RowKit.intOf jj).toNat)
            case atStart => exact ⟨0, by omega, rfl, rfl, Below.refl _ _⟩
            case round =>
              obtain ⟨j, hj, rfl, rfl, hbw⟩ := hrel
              by_cases hjl : j < l.length
              · have hLw := HL3.out.old hbw
                have hid64 := (H64.out _ (ge_mem l j hjl)).2.1
                obtain ⟨b3, off3, rfl, hbl3, e0, e1, e2, e3, e4, e5⟩ := le_at hLw j hjl
                have hX5 : Bk (wr.alloc (.cells #[.int .i64 (ge l j).k, .int .i64 (ge l j).f.i, .int .i64 (ge l j).f.c, .int .i64 (ge l j).f.g, .int .i64 (ge l j).f.t, .int .i64 (ge l j).f.r] 32)) wr.heap.size 32 #[.int .i64 (ge l j).k, .int .i64 (ge l j).f.i, .int .i64 (ge l j).f.c, .int .i64 (ge l j).f.g, .int .i64 (ge l j).f.t, .int .i64 (ge l j).f.r] := Mw.Bk.new _ _ _
                have hL5 := hLw.alloc (.cells #[.int .i64 (ge l j).k, .int .i64 (ge l j).f.i, .int .i64 (ge l j).f.c, .int .i64 (ge l j).f.g, .int .i64 (ge l j).f.t, .int .i64 (ge l j).f.r] 32)
                have hb5 := Mw.bl_alloc hbw (.cells #[.int .i64 (ge l j).k, .int .i64 (ge l j).f.i, .int .i64 (ge l j).f.c, .int .i64 (ge l j).f.g, .int .i64 (ge l j).f.t, .int .i64 (ge l j).f.r] 32)
                have v5 : (j : Int) < l.length := by omega
                by_cases hk : (ge l j).k = 0
                · have t0 : ((ge l j).k != 0) = false := by rw [hk]; rfl
                  have HK0 := Lib.hid hk
                  clear hk
                  go_wp2_with fail
                  generalize wr.alloc (.cells #[.int .i64 (ge l j).k, .int .i64 (ge l j).f.i, .int .i64 (ge l j).f.c, .int .i64 (ge l j).f.g, .int .i64 (ge l j).f.t, .int .i64 (ge l j).f.r] 32) = w5 at *
                  generalize wr.heap.size = xb at *
                  clear e0 e1 e2 e3 e4 e5 hbl3 hLw hbw
                  go_loopw [17, 101] (fun x ii wx => ∃ i : Nat, i ≤ l.length ∧ ii = .int .i64 i ∧ x = .bool (gon (l.take i) (ge l j).f.i) ∧ Below w5.heap.size w5 wx) (fun _ ii _ => l.length - (RowKit.intOf ii).toNat)
                  case atStart => exact ⟨0, by omega, rfl, rfl, Below.refl _ _⟩
                  case round =>
                    obtain ⟨i, hin, rfl, rfl, hbx⟩ := hrel
                    have hX6 := hX5.old hbx
                    have xk := hX6.cell 0
                    have xi := hX6.cell 1
                    have xl := hX6.lt
                    by_cases hil : i < l.length
                    · obtain ⟨b4, off4, hbe4, hbl4, f0, f1, f2, f3, f4, f5⟩ := le_at (hL5.old hbx) i hil
                      cases hbe4
                      have v0 : (i : Int) < l.length := by omega
                      cases hg : gon (l.take i) (ge l j).f.i
                      · have HG := Lib.hid hg
                        clear hg
                        by_cases h1 : (ge l i).k = 1
                        · by_cases h2 : (ge l i).f.i = (ge l j).f.i
                          · have HN : Hid (gn1 (ge l i) (ge l j).f.i = true) := decide_eq_true (.inl ⟨h1, h2⟩)
                            have t1 : ((ge l i).k == 1) = true := beq_iff_eq.2 h1
                            have t2 : ((ge l i).f.i == (ge l j).f.i) = true := beq_iff_eq.2 h2
                            clear h1 h2
                            have H : Hid (gon (l.take (i + 1)) (ge l j).f.i = true) := by unfold Hid; rw [gon_step hil, HG.out, HN.out]; rfl
                            clear HN HG
                            go_wp2_with fail
                            clear xk xi xl
                            go_roundw
                            case rel => exact ⟨i + 1, by omega, by go_num, by rw [H.out] <;> rfl, by (repeat (first | with_reducible exact Below.refl _ _ | with_reducible refine bl_drewN ?_ _ | with_reducible refine Below.drew ?_ | with_reducible refine bl_alloc ?_ _ | with_reducible refine Below.alloc ?_ (by first | omega | (simp; done) | (simp; omega)) _ | with_reducible refine Below.setCell ?_ (by first | omega | (simp; done) | (simp; omega)) _ | with_reducible assumption))⟩
                            case measure => simp [RowKit.intOf]; omega
                          · have h0 : ¬ (ge l i).k = 0 := by omega
                            have HN : Hid (gn1 (ge l i) (ge l j).f.i = false) := decide_eq_false (fun h => by rcases h with h | h; exact h2 h.2; exact h0 h.1)
                            have t1 : ((ge l i).k == 1) = true := beq_iff_eq.2 h1
                            have t2 : ((ge l i).f.i == (ge l j).f.i) = false := beq_eq_false_iff_ne.2 h2
                            have t3 : ((ge l i).k == 0) = false := beq_eq_false_iff_ne.2 h0
                            clear h1 h2 h0
                            have H : Hid (gon (l.take (i + 1)) (ge l j).f.i = false) := by unfold Hid; rw [gon_step hil, HG.out, HN.out]; rfl
                            clear HN HG
                            go_wp2_with fail
                            clear xk xi xl
                            go_roundw
                            case rel => exact ⟨i + 1, by omega, by go_num, by rw [H.out] <;> rfl, by (repeat (first | with_reducible exact Below.refl _ _ | with_reducible refine bl_drewN ?_ _ | with_reducible refine Below.drew ?_ | with_reducible refine bl_alloc ?_ _ | with_reducible refine Below.alloc ?_ (by first | omega | (simp; done) | (simp; omega)) _ | with_reducible refine Below.setCell ?_ (by first | omega | (simp; done) | (simp; omega)) _ | with_reducible assumption))⟩
                            case measure => simp [RowKit.intOf]; omega
                        · by_cases h0 : (ge l i).k = 0
                          · by_cases h2 : (ge l i).f.r = (ge l j).f.i
                            · have HN : Hid (gn1 (ge l i) (ge l j).f.i = true) := decide_eq_true (.inr ⟨h0, h2⟩)
                              have t1 : ((ge l i).k == 1) = false := beq_eq_false_iff_ne.2 h1
                              have t3 : ((ge l i).k == 0) = true := beq_iff_eq.2 h0
                              have t4 : ((ge l i).f.r == (ge l j).f.i) = true := beq_iff_eq.2 h2
                              clear h1 h2 h0
                              have H : Hid (gon (l.take (i + 1)) (ge l j).f.i = true) := by unfold Hid; rw [gon_step hil, HG.out, HN.out]; rfl
                              clear HN HG
                              go_wp2_with fail
                              clear xk xi xl
                              go_roundw
                              case rel => exact ⟨i + 1, by omega, by go_num, by rw [H.out] <;> rfl, by (repeat (first | with_reducible exact Below.refl _ _ | with_reducible refine bl_drewN ?_ _ | with_reducible refine Below.drew ?_ | with_reducible refine bl_alloc ?_ _ | with_reducible refine Below.alloc ?_ (by first | omega | (simp; done) | (simp; omega)) _ | with_reducible refine Below.setCell ?_ (by first | omega | (simp; done) | (simp; omega)) _ | with_reducible assumption))⟩
                              case measure => simp [RowKit.intOf]; omega
                            · have HN : Hid (gn1 (ge l i) (ge l j).f.i = false) := decide_eq_false (fun h => by rcases h with h | h; exact h1 h.1; exact h2 h.2)
                              have t1 : ((ge l i).k == 1) = false := beq_eq_false_iff_ne.2 h1
                              have t3 : ((ge l i).k == 0) = true := beq_iff_eq.2 h0
                              have t4 : ((ge l i).f.r == (ge l j).f.i) = false := beq_eq_false_iff_ne.2 h2
                              clear h1 h2 h0
                              have H : Hid (gon (l.take (i + 1)) (ge l j).f.i = false) := by unfold Hid; rw [gon_step hil, HG.out, HN.out]; rfl
                              clear HN HG
                              go_wp2_with fail
                              clear xk xi xl
                              go_roundw
                              case rel => exact ⟨i + 1, by omega, by go_num, by rw [H.out] <;> rfl, by (repeat (first | with_reducible exact Below.refl _ _ | with_reducible refine bl_drewN ?_ _ | with_reducible refine Below.drew ?_ | with_reducible refine bl_alloc ?_ _ | with_reducible refine Below.alloc ?_ (by first | omega | (simp; done) | (simp; omega)) _ | with_reducible refine Below.setCell ?_ (by first | omega | (simp; done) | (simp; omega)) _ | with_reducible assumption))⟩
                              case measure => simp [RowKit.intOf]; omega
                          · have HN : Hid (gn1 (ge l i) (ge l j).f.i = false) := decide_eq_false (fun h => by rcases h with h | h; exact h1 h.1; exact h0 h.1)
                            have t1 : ((ge l i).k == 1) = false := beq_eq_false_iff_ne.2 h1
                            have t3 : ((ge l i).k == 0) = false := beq_eq_false_iff_ne.2 h0
                            clear h1 h0
                            have H : Hid (gon (l.take (i + 1)) (ge l j).f.i = false) := by unfold Hid; rw [gon_step hil, HG.out, HN.out]; rfl
                            clear HN HG
                            go_wp2_with fail
                            clear xk xi xl
                            go_roundw
                            case rel => exact ⟨i + 1, by omega, by go_num, by rw [H.out] <;> rfl, by (repeat (first | with_reducible exact Below.refl _ _ | with_reducible refine bl_drewN ?_ _ | with_reducible refine Below.drew ?_ | with_reducible refine bl_alloc ?_ _ | with_reducible refine Below.alloc ?_ (by first | omega | (simp; done) | (simp; omega)) _ | with_reducible refine Below.setCell ?_ (by first | omega | (simp; done) | (simp; omega)) _ | with_reducible assumption))⟩
                            case measure => simp [RowKit.intOf]; omega
                      · have H : Hid (gon (l.take (i + 1)) (ge l j).f.i = true) := by unfold Hid; rw [gon_step hil, hg]; rfl
                        clear hg
                        go_wp2_with fail
                        clear xk xi xl
                        go_roundw
                        case rel => exact ⟨i + 1, by omega, by go_num, by rw [H.out] <;> rfl, by (repeat (first | with_reducible exact Below.refl _ _ | with_reducible refine bl_drewN ?_ _ | with_reducible refine Below.drew ?_ | with_reducible refine bl_alloc ?_ _ | with_reducible refine Below.alloc ?_ (by first | omega | (simp; done) | (simp; omega)) _ | with_reducible refine Below.setCell ?_ (by first | omega | (simp; done) | (simp; omega)) _ | with_reducible assumption))⟩
                        case measure => simp [RowKit.intOf]; omega
                    · have hie : i = l.length := by omega
                      have hgt : gon (l.take i) (ge l j).f.i = gon l (ge l j).f.i := by rw [hie, List.take_length]
                      rw [hgt]
                      have hby := bl_trans hb5 hbx
                      have hL6 := hL5.old hbx
                      have v0 : ¬ (i : Int) < l.length := by omega
                      clear hgt hie
                      cases hg : gon l (ge l j).f.i
                      · have HN : Hid (cntN l (j + 1) = cntN l j + 1) := cnt_yes ⟨HK0.out, hg⟩
                        have HP := prove_any l _ c (ge l j).f.i _ hid64 hL6 H64.out
                        rw [prv_ok HV.out (ge_mem l j hjl) HK0.out hg] at HP
                        have HPP := Lib.hid HP
                        have hcb := cnt_le l j
                        clear HP hg
                        go_wp2_with fail
                        refine HPP.out.mono ?_
                        rintro e w7 ⟨E, cE, F, cF, rfl, -, -, -, -, -, -, hb7⟩
                        have hb8 := bl_trans hby hb7
                        clear HPP xk xi xl hb7
                        go_wp2_with fail
                        go_roundw
                        case rel => exact ⟨j + 1, by omega, by go_num, by rw [HN.out] <;> go_num, by (repeat (first | with_reducible exact Below.refl _ _ | with_reducible refine bl_drewN ?_ _ | with_reducible refine Below.drew ?_ | with_reducible refine bl_alloc ?_ _ | with_reducible refine Below.alloc ?_ (by first | omega | (simp; done) | (simp; omega)) _ | with_reducible refine Below.setCell ?_ (by first | omega | (simp; done) | (simp; omega)) _ | with_reducible assumption))⟩
                        case measure => simp [RowKit.intOf]; omega
                      · have HN : Hid (cntN l (j + 1) = cntN l j) := cnt_no (fun h => by rw [h.2] at hg; cases hg)
                        have HP := prove_any l _ c (ge l j).f.i _ hid64 hL6 H64.out
                        rw [prv_gone HV.out (ge_mem l j hjl) HK0.out hg] at HP
                        have HPP := Lib.hid HP
                        clear HP hg
                        go_wp2_with fail
                        refine HPP.out.mono ?_
                        rintro e w7 ⟨E, cE, F, cF, rfl, -, -, -, -, -, -, hb7⟩
                        have hb8 := bl_trans hby hb7
                        clear HPP xk xi xl hb7
                        go_wp2_with fail
                        go_roundw
                        case rel => exact ⟨j + 1, by omega, by go_num, by rw [HN.out] <;> rfl, by (repeat (first | with_reducible exact Below.refl _ _ | with_reducible refine bl_drewN ?_ _ | with_reducible refine Below.drew ?_ | with_reducible refine bl_alloc ?_ _ | with_reducible refine Below.alloc ?_ (by first | omega | (simp; done) | (simp; omega)) _ | with_reducible refine Below.setCell ?_ (by first | omega | (simp; done) | (simp; omega)) _ | with_reducible assumption))⟩
                        case measure => simp [RowKit.intOf]; omega
                · have t0 : ((ge l j).k != 0) = true := bne_iff_ne.2 hk
                  have HN : Hid (cntN l (j + 1) = cntN l j) := cnt_no (fun h => hk h.1)
                  clear hk
                  go_wp2_with fail
                  go_roundw
                  case rel => exact ⟨j + 1, by omega, by go_num, by rw [HN.out] <;> rfl, hb5⟩
                  case measure => simp [RowKit.intOf]; omega
              · have hje : j = l.length := by omega
                have hcn : cntN l j = cu.length := by rw [hje]; exact HCn.out.symm
                rw [hcn]
                have hbz := bl_trans hb30 hbw
                clear hje hcn
                go_wp2_with fail
                refine (sane_any _).mono ?_
                rintro e w9 ⟨rfl, hb9⟩
                go_wp2_with fail
                go_ret
                exact ⟨rfl, bl_trans hbz hb9⟩
  · have HL := Lib.hid (show ∀ W : World, Calls Try.prog 6 #[.slice A0 l0.length c0] W fun e w' => e = .returned (.bool false) ∧ W = w' from fun W => by have h6 := light_any l0 A0 c0 W; rwa [decide_eq_false hL] at h6)
    clear hr hi
    go_enter Try.func3, Try.ntmps3
    go_wp2_with fail
    refine (HL.out _).mono ?_
    rintro e w0 ⟨rfl, rfl⟩
    go_wp2_with fail
    refine (sane_any _).mono ?_
    rintro e w1 ⟨rfl, hb1⟩
    go_wp2_with fail
    go_ret
    exact ⟨rfl, hb1⟩
end Go.Proofs.Ytdikoffppjoomaa.Ct
