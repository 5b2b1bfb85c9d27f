/- Walks: the reference: next. -/
import Derived.Test.YtdikoffppjoomaaGreatCT
import Derived.Test.YtdikoffppjoomaaGreatCD
import Derived.WalkKit
import Derived.WalkSpells
import Derived.WalkLawsBesides
import Derived.Deep.QuietTactic
import Derived.BigQuiet
import Derived.Deep.Draws
import Derived.Deep.AppendLies
import Derived.Laws.OwnMore
import Derived.Laws.BytesArg
import Derived.Lib.Hide
import Derived.Deep.LoopGhost
namespace Go.Proofs.YtdikoffppjoomaaGreat.Ct
open Go.RowKit Go.Proofs.YtdikoffppjoomaaGreat.Dg
open Go.Proofs.YtdikoffppjoomaaGreat.Mw (I64 ret_int ret_bool Bk bl_trans own_ints RdI RdR ge ge_lt gi ge_mem own_rows)
set_option linter.unusedVariables false
set_option linter.unusedSimpArgs false
set_option maxRecDepth 100000

theorem lst_ge {l : List Le} (h : l.length ≠ 0) : lst l = (ge l (l.length - 1)).f.t := by
  have hne : l ≠ [] := by intro e; subst e; exact h rfl
  have h1 : lst l = (l.getLast hne).f.t := by unfold lst; rw [List.getLast?_eq_some_getLast hne]
  have h2 : ge l (l.length - 1) = l.getLast hne := by
    have := Mw.ge_lt l (l.length - 1) (by omega)
    rw [List.getElem?_eq_getElem (by omega)] at this
    injection this with this
    rw [← this, List.getLast_eq_getElem]
  rw [h1, h2]
theorem vld_t {c : Cf} (h : vld c = true) : 0 ≤ c.t := (vld_id h).2.2
theorem rvk_t {c : Cf} (h : rvk c = true) : 0 ≤ c.t := by unfold rvk at h; have := of_decide_eq_true h; omega
set_option maxHeartbeats 40000000 in
theorem rnext_any (l : List Le) (x : Le) (A : Option Addr) (c : Nat) (w : World) (hr : RdL w A l) (hl : l.length ≤ maxLen) : Calls Tryz.prog 70 #[.slice A l.length c, lev x] w fun e w' => e = .returned (.int .i64 (nxt l x)) ∧ Below w.heap.size w w' := by
  have HR := Lib.hid hr
  have HL := Lib.hid hl
  have HN : Hid (nxt l x = if 256 ≤ l.length then 3 else if x.k = 0 then (if vld x.f = false then 2 else if (fnd l x.f.i).isSome then 5 else if x.f.r = 0 then (if hol l x.f.c then 9 else tim l x) else match fnd l x.f.r with | none => 4 | some o => if o.c = x.f.c then (if gon l x.f.r then 46 else tim l x) else 4) else if x.k = 1 then (if rvk x.f = false then 2 else match fnd l x.f.i with | none => 4 | some _ => if gon l x.f.i then 46 else tim l x) else 2) := rfl
  simp only [maxLen] at hl
  clear hr
  by_cases h256 : 256 ≤ l.length
  · have H : Hid (nxt l x = 3) := HN.out.trans (if_pos h256)
    have h' : (256 : Int) ≤ l.length := by omega
    clear HN h256
    go_enter Tryz.func70, Tryz.ntmps70
    go_wp2_with fail
    go_ret
    exact ⟨by rw [H.out] <;> rfl, by (repeat (first | with_reducible exact Below.refl _ _ | with_reducible refine bl_drewN ?_ _ | with_reducible refine Below.drew ?_ | with_reducible refine bl_alloc ?_ _ | with_reducible refine Below.alloc ?_ (by first | omega | (simp; done) | (simp; omega)) _ | with_reducible refine Below.setCell ?_ (by first | omega | (simp; done) | (simp; omega)) _ | with_reducible assumption))⟩
  have h' : ¬ (256 : Int) ≤ l.length := by omega
  have H1 := Lib.hid (HN.out.trans (if_neg h256))
  clear HN h256
  have hC0 : Bk ((w.alloc (.cells #[.int .i64 x.k, .int .i64 x.f.i, .int .i64 x.f.c, .int .i64 x.f.g, .int .i64 x.f.t, .int .i64 x.f.r] 54)).alloc (.cells #[.int .i64 x.f.i, .int .i64 x.f.c, .int .i64 x.f.g, .int .i64 x.f.t, .int .i64 x.f.r] 46)) (w.heap.size + 1) 46 #[.int .i64 x.f.i, .int .i64 x.f.c, .int .i64 x.f.g, .int .i64 x.f.t, .int .i64 x.f.r] := Mw.Bk.new' (by simp)
  have hE0 : Bk ((w.alloc (.cells #[.int .i64 x.k, .int .i64 x.f.i, .int .i64 x.f.c, .int .i64 x.f.g, .int .i64 x.f.t, .int .i64 x.f.r] 54)).alloc (.cells #[.int .i64 x.f.i, .int .i64 x.f.c, .int .i64 x.f.g, .int .i64 x.f.t, .int .i64 x.f.r] 46)) w.heap.size 54 #[.int .i64 x.k, .int .i64 x.f.i, .int .i64 x.f.c, .int .i64 x.f.g, .int .i64 x.f.t, .int .i64 x.f.r] := (Mw.Bk.new _ _ _).alloc _
  have hb0 : Below w.heap.size w ((w.alloc (.cells #[.int .i64 x.k, .int .i64 x.f.i, .int .i64 x.f.c, .int .i64 x.f.g, .int .i64 x.f.t, .int .i64 x.f.r] 54)).alloc (.cells #[.int .i64 x.f.i, .int .i64 x.f.c, .int .i64 x.f.g, .int .i64 x.f.t, .int .i64 x.f.r] 46)) := by (repeat (first | with_reducible exact Below.refl _ _ | with_reducible refine bl_drewN ?_ _ | with_reducible refine Below.drew ?_ | with_reducible refine bl_alloc ?_ _ | with_reducible refine Below.alloc ?_ (by first | omega | (simp; done) | (simp; omega)) _ | with_reducible refine Below.setCell ?_ (by first | omega | (simp; done) | (simp; omega)) _ | with_reducible assumption))
  by_cases hk : x.k = 0
  · have H2 := Lib.hid (H1.out.trans (if_pos hk))
    have t0 : (x.k == 0) = true := beq_iff_eq.2 hk
    have HV := Lib.hid (rvalid_any x.f)
    clear H1 hk hE0
    cases hv : vld x.f
    · have H : Hid (nxt l x = 2) := H2.out.trans (if_pos hv)
      rw [hv] at HV
      clear H2 hv
      go_enter Tryz.func70, Tryz.ntmps70
      go_wp2_with fail
      refine (HV.out _).mono ?_
      rintro e w1 ⟨rfl, hb1⟩
      have hb2 := bl_trans hb0 hb1
      go_wp2_with fail
      go_ret
      exact ⟨by rw [H.out] <;> rfl, by (repeat (first | with_reducible exact Below.refl _ _ | with_reducible refine bl_drewN ?_ _ | with_reducible refine Below.drew ?_ | with_reducible refine bl_alloc ?_ _ | with_reducible refine Below.alloc ?_ (by first | omega | (simp; done) | (simp; omega)) _ | with_reducible refine Below.setCell ?_ (by first | omega | (simp; done) | (simp; omega)) _ | with_reducible assumption))⟩
    have H3 := Lib.hid (H2.out.trans (if_neg (by rw [hv]; simp)))
    have HT0 := Lib.hid (vld_t hv)
    rw [hv] at HV
    clear H2 hv
    go_enter Tryz.func70, Tryz.ntmps70
    go_wp2_with fail
    refine (HV.out _).mono ?_
    rintro e w1 ⟨rfl, hbv⟩
    have hC1 := hC0.old hbv
    have hb1 := bl_trans hb0 hbv
    clear HV hbv hC0 hb0
    have c0 := hC1.cell 0
    have c1 := hC1.cell 1
    have c2 := hC1.cell 2
    have c3 := hC1.cell 3
    have c4 := hC1.cell 4
    have cl := hC1.lt
    go_wp2_with fail
    refine (rfind_any l A c x.f.i _ (HR.out.old hb1) HL.out).mono ?_
    rintro e w2 ⟨rfl, hbq⟩
    have hC2 := hC1.old hbq
    have hb2 := bl_trans hb1 hbq
    clear hbq hC1 hb1
    clear c0 c1 c2 c3 c4 cl
    cases hf : (fnd l x.f.i).isSome
    rotate_left 1
    · have H : Hid (nxt l x = 5) := H3.out.trans (if_pos hf)
      clear H3 hf
      go_wp2_with fail
      go_ret
      exact ⟨by rw [H.out] <;> rfl, by (repeat (first | with_reducible exact Below.refl _ _ | with_reducible refine bl_drewN ?_ _ | with_reducible refine Below.drew ?_ | with_reducible refine bl_alloc ?_ _ | with_reducible refine Below.alloc ?_ (by first | omega | (simp; done) | (simp; omega)) _ | with_reducible refine Below.setCell ?_ (by first | omega | (simp; done) | (simp; omega)) _ | with_reducible assumption))⟩
    have H4 := Lib.hid (H3.out.trans (if_neg (by rw [hf]; simp)))
    clear H3 hf
    have hC3 := hC2.alloc (.cells #[.int .i64 ((fnd l x.f.i).getD default).i, .int .i64 ((fnd l x.f.i).getD default).c, .int .i64 ((fnd l x.f.i).getD default).g, .int .i64 ((fnd l x.f.i).getD default).t, .int .i64 ((fnd l x.f.i).getD default).r] 46)
    have hb3 := Mw.bl_alloc hb2 (.cells #[.int .i64 ((fnd l x.f.i).getD default).i, .int .i64 ((fnd l x.f.i).getD default).c, .int .i64 ((fnd l x.f.i).getD default).g, .int .i64 ((fnd l x.f.i).getD default).t, .int .i64 ((fnd l x.f.i).getD default).r] 46)
    have c0 := hC3.cell 0
    have c1 := hC3.cell 1
    have c2 := hC3.cell 2
    have c3 := hC3.cell 3
    have c4 := hC3.cell 4
    have cl := hC3.lt
    by_cases h0 : x.f.r = 0
    · have H5 := Lib.hid (H4.out.trans (if_pos h0))
      have u0 : (x.f.r != 0) = false := by rw [h0]; rfl
      clear H4 h0
      go_wp2_with fail
      refine (rholds_any l A c x.f.c _ (HR.out.old hb3) HL.out).mono ?_
      rintro e w4 ⟨rfl, hbq⟩
      have hC4 := hC3.old hbq
      have hb4 := bl_trans hb3 hbq
      clear hbq hC2 hC3 hb2 hb3
      clear c0 c1 c2 c3 c4 cl
      cases hh : hol l x.f.c
      · have H6 := Lib.hid (H5.out.trans (if_neg (by rw [hh]; simp)))
        clear H5 hh
        have c0 := hC4.cell 0
        have c1 := hC4.cell 1
        have c2 := hC4.cell 2
        have c3 := hC4.cell 3
        have c4 := hC4.cell 4
        have cl := hC4.lt
        by_cases hn : l.length = 0
        · have u0 : decide ((0 : Int) < l.length) = false := decide_eq_false (by omega)
          have H9 : Hid (nxt l x = 0) := H6.out.trans (by
            obtain rfl := List.length_eq_zero_iff.1 hn
            unfold tim
            exact if_neg (by have := HT0.out; simp [lst]; omega))
          have u1 : ¬ (0 : Int) < l.length := by omega
          have u6 : decide (0 < l.length) = false := decide_eq_false (by omega)
          have u7 : ¬ 0 < l.length := by omega
          clear hn
          go_wp2_with fail
          refine Mm.region_ext (by kernel_rfl) (by kernel_rfl) ?_; (repeat (first | go_big_quiet_step (fail) | quiet_step (fail))); refine wpQuiet_nil ?_
          intro wz hbz
          go_wp2_with fail
          go_ret
          exact ⟨by rw [H9.out] <;> rfl, bl_trans hb4 hbz⟩
        · obtain ⟨b, off, rfl, hbl, d0, d1, d2, d3, d4, d5⟩ := le_at (HR.out.old hb4) (l.length - 1) (by omega)
          have hlst : lst l = (ge l (l.length - 1)).f.t := lst_ge (by omega)
          obtain ⟨M, hM⟩ : ∃ M, M = l.length - 1 := ⟨_, rfl⟩
          rw [← hlst, ← hM] at d4
          rw [← hM] at d0 d1 d2 d3 d5
          have hw : IntKind.i64.wrap ((l.length : Int) - 1) = (M : Int) := by rw [IntWalk.i64_in _ (by omega)]; omega
          have u0 : decide ((0 : Int) < l.length) = true := decide_eq_true (by omega)
          have u1 : (0 : Int) < l.length := by omega
          have u6 : decide (0 < l.length) = true := decide_eq_true (by omega)
          have u7 : 0 < l.length := by omega
          have u2 : (0 : Int) ≤ (M : Int) := by omega
          have u3 : (M : Int) < l.length := by omega
          have u4 : M < l.length := by omega
          clear hn hM hlst
          by_cases ht : x.f.t < lst l
          · have H9 : Hid (nxt l x = 43) := H6.out.trans (if_pos ht)
            have u5 : decide (x.f.t < lst l) = true := decide_eq_true ht
            go_wp2_with fail
            refine Mm.region_ext (by kernel_rfl) (by kernel_rfl) ?_; (repeat (first | go_big_quiet_step (fail) | quiet_step (fail))); refine wpQuiet_nil ?_
            intro wz hbz
            go_wp2_with fail
            go_ret
            exact ⟨by rw [H9.out] <;> rfl, bl_trans hb4 hbz⟩
          · have H9 : Hid (nxt l x = 0) := H6.out.trans (if_neg ht)
            have u5 : decide (x.f.t < lst l) = false := decide_eq_false ht
            go_wp2_with fail
            refine Mm.region_ext (by kernel_rfl) (by kernel_rfl) ?_; (repeat (first | go_big_quiet_step (fail) | quiet_step (fail))); refine wpQuiet_nil ?_
            intro wz hbz
            go_wp2_with fail
            go_ret
            exact ⟨by rw [H9.out] <;> rfl, bl_trans hb4 hbz⟩
      · have H : Hid (nxt l x = 9) := H5.out.trans (if_pos hh)
        clear H5 hh
        go_wp2_with fail
        go_ret
        exact ⟨by rw [H.out] <;> rfl, by (repeat (first | with_reducible exact Below.refl _ _ | with_reducible refine bl_drewN ?_ _ | with_reducible refine Below.drew ?_ | with_reducible refine bl_alloc ?_ _ | with_reducible refine Below.alloc ?_ (by first | omega | (simp; done) | (simp; omega)) _ | with_reducible refine Below.setCell ?_ (by first | omega | (simp; done) | (simp; omega)) _ | with_reducible assumption))⟩
    · have H5 := Lib.hid (H4.out.trans (if_neg h0))
      have u0 : (x.f.r != 0) = true := bne_iff_ne.2 h0
      clear H4 h0
      go_wp2_with fail
      refine (rfind_any l A c x.f.r _ (HR.out.old hb3) HL.out).mono ?_
      rintro e w4 ⟨rfl, hbq⟩
      have hC4 := hC3.old hbq
      have hb4 := bl_trans hb3 hbq
      clear hbq hC2 hC3 hb2 hb3
      clear c0 c1 c2 c3 c4 cl
      cases hf : fnd l x.f.r with
      | none =>
        have H : Hid (nxt l x = 4) := H5.out.trans (by rw [hf])
        clear H5 hf
        go_wp2_with fail
        go_ret
        exact ⟨by rw [H.out] <;> rfl, by (repeat (first | with_reducible exact Below.refl _ _ | with_reducible refine bl_drewN ?_ _ | with_reducible refine Below.drew ?_ | with_reducible refine bl_alloc ?_ _ | with_reducible refine Below.alloc ?_ (by first | omega | (simp; done) | (simp; omega)) _ | with_reducible refine Below.setCell ?_ (by first | omega | (simp; done) | (simp; omega)) _ | with_reducible assumption))⟩
      | some o =>
        have H6 : Hid (nxt l x = if o.c = x.f.c then (if gon l x.f.r then 46 else tim l x) else 4) := H5.out.trans (by rw [hf])
        have hC5 := hC4.alloc (.cells #[.int .i64 o.i, .int .i64 o.c, .int .i64 o.g, .int .i64 o.t, .int .i64 o.r] 46)
        have hb5 := Mw.bl_alloc hb4 (.cells #[.int .i64 o.i, .int .i64 o.c, .int .i64 o.g, .int .i64 o.t, .int .i64 o.r] 46)
        have hO : Bk (w4.alloc (.cells #[.int .i64 o.i, .int .i64 o.c, .int .i64 o.g, .int .i64 o.t, .int .i64 o.r] 46)) w4.heap.size 46 #[.int .i64 o.i, .int .i64 o.c, .int .i64 o.g, .int .i64 o.t, .int .i64 o.r] := Mw.Bk.new _ _ _
        clear H5 hf
        have c0 := hC4.cell 0
        have c1 := hC4.cell 1
        have c2 := hC4.cell 2
        have c3 := hC4.cell 3
        have c4 := hC4.cell 4
        have cl := hC4.lt
        by_cases ho : o.c = x.f.c
        · have H7 := Lib.hid (H6.out.trans (if_pos ho))
          have v0 : (o.c != x.f.c) = false := by rw [ho]; simp
          clear H6 ho
          go_wp2_with fail
          refine (rgone_any l A c x.f.r _ (HR.out.old hb5) HL.out).mono ?_
          rintro e w6 ⟨rfl, hbq⟩
          have hC6 := hC5.old hbq
          have hb6 := bl_trans hb5 hbq
          clear hbq hC4 hC5 hb4 hb5 hO
          clear c0 c1 c2 c3 c4 cl
          cases hg : gon l x.f.r
          · have H8 := Lib.hid (H7.out.trans (if_neg (by rw [hg]; simp)))
            clear H7 hg
            have c0 := hC6.cell 0
            have c1 := hC6.cell 1
            have c2 := hC6.cell 2
            have c3 := hC6.cell 3
            have c4 := hC6.cell 4
            have cl := hC6.lt
            by_cases hn : l.length = 0
            · have u0 : decide ((0 : Int) < l.length) = false := decide_eq_false (by omega)
              have H9 : Hid (nxt l x = 0) := H8.out.trans (by
                obtain rfl := List.length_eq_zero_iff.1 hn
                unfold tim
                exact if_neg (by have := HT0.out; simp [lst]; omega))
              have u1 : ¬ (0 : Int) < l.length := by omega
              have u6 : decide (0 < l.length) = false := decide_eq_false (by omega)
              have u7 : ¬ 0 < l.length := by omega
              clear hn
              go_wp2_with fail
              refine Mm.region_ext (by kernel_rfl) (by kernel_rfl) ?_; (repeat (first | go_big_quiet_step (fail) | quiet_step (fail))); refine wpQuiet_nil ?_
              intro wz hbz
              go_wp2_with fail
              go_ret
              exact ⟨by rw [H9.out] <;> rfl, bl_trans hb6 hbz⟩
            · obtain ⟨b, off, rfl, hbl, d0, d1, d2, d3, d4, d5⟩ := le_at (HR.out.old hb6) (l.length - 1) (by omega)
              have hlst : lst l = (ge l (l.length - 1)).f.t := lst_ge (by omega)
              obtain ⟨M, hM⟩ : ∃ M, M = l.length - 1 := ⟨_, rfl⟩
              rw [← hlst, ← hM] at d4
              rw [← hM] at d0 d1 d2 d3 d5
              have hw : IntKind.i64.wrap ((l.length : Int) - 1) = (M : Int) := by rw [IntWalk.i64_in _ (by omega)]; omega
              have u0 : decide ((0 : Int) < l.length) = true := decide_eq_true (by omega)
              have u1 : (0 : Int) < l.length := by omega
              have u6 : decide (0 < l.length) = true := decide_eq_true (by omega)
              have u7 : 0 < l.length := by omega
              have u2 : (0 : Int) ≤ (M : Int) := by omega
              have u3 : (M : Int) < l.length := by omega
              have u4 : M < l.length := by omega
              clear hn hM hlst
              by_cases ht : x.f.t < lst l
              · have H9 : Hid (nxt l x = 43) := H8.out.trans (if_pos ht)
                have u5 : decide (x.f.t < lst l) = true := decide_eq_true ht
                go_wp2_with fail
                refine Mm.region_ext (by kernel_rfl) (by kernel_rfl) ?_; (repeat (first | go_big_quiet_step (fail) | quiet_step (fail))); refine wpQuiet_nil ?_
                intro wz hbz
                go_wp2_with fail
                go_ret
                exact ⟨by rw [H9.out] <;> rfl, bl_trans hb6 hbz⟩
              · have H9 : Hid (nxt l x = 0) := H8.out.trans (if_neg ht)
                have u5 : decide (x.f.t < lst l) = false := decide_eq_false ht
                go_wp2_with fail
                refine Mm.region_ext (by kernel_rfl) (by kernel_rfl) ?_; (repeat (first | go_big_quiet_step (fail) | quiet_step (fail))); refine wpQuiet_nil ?_
                intro wz hbz
                go_wp2_with fail
                go_ret
                exact ⟨by rw [H9.out] <;> rfl, bl_trans hb6 hbz⟩
          · have H : Hid (nxt l x = 46) := H7.out.trans (if_pos hg)
            clear H7 hg
            go_wp2_with fail
            go_ret
            exact ⟨by rw [H.out] <;> rfl, by (repeat (first | with_reducible exact Below.refl _ _ | with_reducible refine bl_drewN ?_ _ | with_reducible refine Below.drew ?_ | with_reducible refine bl_alloc ?_ _ | with_reducible refine Below.alloc ?_ (by first | omega | (simp; done) | (simp; omega)) _ | with_reducible refine Below.setCell ?_ (by first | omega | (simp; done) | (simp; omega)) _ | with_reducible assumption))⟩
        · have H : Hid (nxt l x = 4) := H6.out.trans (if_neg ho)
          have v0 : (o.c != x.f.c) = true := bne_iff_ne.2 ho
          clear H6 ho
          go_wp2_with fail
          go_ret
          exact ⟨by rw [H.out] <;> rfl, by (repeat (first | with_reducible exact Below.refl _ _ | with_reducible refine bl_drewN ?_ _ | with_reducible refine Below.drew ?_ | with_reducible refine bl_alloc ?_ _ | with_reducible refine Below.alloc ?_ (by first | omega | (simp; done) | (simp; omega)) _ | with_reducible refine Below.setCell ?_ (by first | omega | (simp; done) | (simp; omega)) _ | with_reducible assumption))⟩
  · have H2 := Lib.hid (H1.out.trans (if_neg hk))
    have t0 : (x.k == 0) = false := beq_eq_false_iff_ne.2 hk
    clear H1 hk
    by_cases hk1 : x.k = 1
    · have H3 := Lib.hid (H2.out.trans (if_pos hk1))
      have t1 : (x.k == 1) = true := beq_iff_eq.2 hk1
      clear H2 hk1
      cases hv : rvk x.f
      · have H : Hid (nxt l x = 2) := H3.out.trans (if_pos hv)
        have hv2 : ¬ (1 ≤ x.f.i ∧ x.f.i ≤ 9999 ∧ 0 ≤ x.f.t ∧ x.f.t ≤ 1000000 ∧ x.f.c = 0 ∧ x.f.g = 0 ∧ x.f.r = 0) := of_decide_eq_false hv
        clear H3 hv
        cases g0 : inB x.f.i 1 9999
        · have HI := Lib.hid (rin_any x.f.i 1 9999)
          rw [g0] at HI
          clear g0 hv2
          go_enter Tryz.func70, Tryz.ntmps70
          go_wp2_with (go_at_call 67; refine (HI.out _).mono ?_; rintro e w1 ⟨rfl, rfl⟩)
          go_ret
          exact ⟨by rw [H.out] <;> rfl, by (repeat (first | with_reducible exact Below.refl _ _ | with_reducible refine bl_drewN ?_ _ | with_reducible refine Below.drew ?_ | with_reducible refine bl_alloc ?_ _ | with_reducible refine Below.alloc ?_ (by first | omega | (simp; done) | (simp; omega)) _ | with_reducible refine Below.setCell ?_ (by first | omega | (simp; done) | (simp; omega)) _ | with_reducible assumption))⟩
        cases g1 : inB x.f.t 0 1000000
        · have HI := Lib.hid (rin_any x.f.i 1 9999)
          have HI2 := Lib.hid (rin_any x.f.t 0 1000000)
          rw [g0] at HI
          rw [g1] at HI2
          clear g0 g1 hv2
          go_enter Tryz.func70, Tryz.ntmps70
          go_wp2_with (go_at_call 67; first | (with_reducible refine (HI.out _).mono ?_; rintro e w1 ⟨rfl, rfl⟩) | (with_reducible refine (HI2.out _).mono ?_; rintro e w1 ⟨rfl, rfl⟩))
          go_ret
          exact ⟨by rw [H.out] <;> rfl, by (repeat (first | with_reducible exact Below.refl _ _ | with_reducible refine bl_drewN ?_ _ | with_reducible refine Below.drew ?_ | with_reducible refine bl_alloc ?_ _ | with_reducible refine Below.alloc ?_ (by first | omega | (simp; done) | (simp; omega)) _ | with_reducible refine Below.setCell ?_ (by first | omega | (simp; done) | (simp; omega)) _ | with_reducible assumption))⟩
        have HI := Lib.hid (rin_any x.f.i 1 9999)
        have HI2 := Lib.hid (rin_any x.f.t 0 1000000)
        have e0 := of_decide_eq_true g0
        have e1 := of_decide_eq_true g1
        rw [g0] at HI
        rw [g1] at HI2
        clear g0 g1
        by_cases m0 : x.f.c = 0
        · have n0 : (x.f.c != 0) = false := by rw [m0]; rfl
          by_cases m1 : x.f.g = 0
          · have n1 : (x.f.g != 0) = false := by rw [m1]; rfl
            have n2 : (x.f.r != 0) = true := bne_iff_ne.2 (fun m2 => hv2 ⟨e0.1, e0.2, e1.1, e1.2, m0, m1, m2⟩)
            clear hv2 m0 m1
            go_enter Tryz.func70, Tryz.ntmps70
            go_wp2_with (go_at_call 67; first | (with_reducible refine (HI.out _).mono ?_; rintro e w1 ⟨rfl, rfl⟩) | (with_reducible refine (HI2.out _).mono ?_; rintro e w1 ⟨rfl, rfl⟩))
            go_ret
            exact ⟨by rw [H.out] <;> rfl, by (repeat (first | with_reducible exact Below.refl _ _ | with_reducible refine bl_drewN ?_ _ | with_reducible refine Below.drew ?_ | with_reducible refine bl_alloc ?_ _ | with_reducible refine Below.alloc ?_ (by first | omega | (simp; done) | (simp; omega)) _ | with_reducible refine Below.setCell ?_ (by first | omega | (simp; done) | (simp; omega)) _ | with_reducible assumption))⟩
          · have n1 : (x.f.g != 0) = true := bne_iff_ne.2 m1
            clear hv2 m0 m1
            go_enter Tryz.func70, Tryz.ntmps70
            go_wp2_with (go_at_call 67; first | (with_reducible refine (HI.out _).mono ?_; rintro e w1 ⟨rfl, rfl⟩) | (with_reducible refine (HI2.out _).mono ?_; rintro e w1 ⟨rfl, rfl⟩))
            go_ret
            exact ⟨by rw [H.out] <;> rfl, by (repeat (first | with_reducible exact Below.refl _ _ | with_reducible refine bl_drewN ?_ _ | with_reducible refine Below.drew ?_ | with_reducible refine bl_alloc ?_ _ | with_reducible refine Below.alloc ?_ (by first | omega | (simp; done) | (simp; omega)) _ | with_reducible refine Below.setCell ?_ (by first | omega | (simp; done) | (simp; omega)) _ | with_reducible assumption))⟩
        · have n0 : (x.f.c != 0) = true := bne_iff_ne.2 m0
          clear hv2 m0
          go_enter Tryz.func70, Tryz.ntmps70
          go_wp2_with (go_at_call 67; first | (with_reducible refine (HI.out _).mono ?_; rintro e w1 ⟨rfl, rfl⟩) | (with_reducible refine (HI2.out _).mono ?_; rintro e w1 ⟨rfl, rfl⟩))
          go_ret
          exact ⟨by rw [H.out] <;> rfl, by (repeat (first | with_reducible exact Below.refl _ _ | with_reducible refine bl_drewN ?_ _ | with_reducible refine Below.drew ?_ | with_reducible refine bl_alloc ?_ _ | with_reducible refine Below.alloc ?_ (by first | omega | (simp; done) | (simp; omega)) _ | with_reducible refine Below.setCell ?_ (by first | omega | (simp; done) | (simp; omega)) _ | with_reducible assumption))⟩
      have H4 := Lib.hid (H3.out.trans (if_neg (by rw [hv]; simp)))
      have HT0 := Lib.hid (rvk_t hv)
      have hv2 : (1 ≤ x.f.i ∧ x.f.i ≤ 9999 ∧ 0 ≤ x.f.t ∧ x.f.t ≤ 1000000 ∧ x.f.c = 0 ∧ x.f.g = 0 ∧ x.f.r = 0) := of_decide_eq_true hv
      have HI := Lib.hid (rin_any x.f.i 1 9999)
      have HI2 := Lib.hid (rin_any x.f.t 0 1000000)
      rw [show inB x.f.i 1 9999 = true from decide_eq_true ⟨hv2.1, hv2.2.1⟩] at HI
      rw [show inB x.f.t 0 1000000 = true from decide_eq_true ⟨hv2.2.2.1, hv2.2.2.2.1⟩] at HI2
      have n0 : (x.f.c != 0) = false := by rw [hv2.2.2.2.2.1]; rfl
      have n1 : (x.f.g != 0) = false := by rw [hv2.2.2.2.2.2.1]; rfl
      have n2 : (x.f.r != 0) = false := by rw [hv2.2.2.2.2.2.2]; rfl
      clear H3 hv hv2
      go_enter Tryz.func70, Tryz.ntmps70
      go_wp2_with (go_at_call 67; first | (with_reducible refine (HI.out _).mono ?_; rintro e w1 ⟨rfl, rfl⟩) | (with_reducible refine (HI2.out _).mono ?_; rintro e w1 ⟨rfl, rfl⟩))
      refine (rfind_any l A c x.f.i _ (HR.out.old hb0) HL.out).mono ?_
      rintro e w1 ⟨rfl, hbq⟩
      have hC1 := hC0.old hbq
      have hb1 := bl_trans hb0 hbq
      clear hbq hC0 hb0 hE0 HI HI2 n0 n1 n2
      cases hf : fnd l x.f.i with
      | none =>
        have H : Hid (nxt l x = 4) := H4.out.trans (by rw [hf])
        clear H4 hf
        go_wp2_with fail
        go_ret
        exact ⟨by rw [H.out] <;> rfl, by (repeat (first | with_reducible exact Below.refl _ _ | with_reducible refine bl_drewN ?_ _ | with_reducible refine Below.drew ?_ | with_reducible refine bl_alloc ?_ _ | with_reducible refine Below.alloc ?_ (by first | omega | (simp; done) | (simp; omega)) _ | with_reducible refine Below.setCell ?_ (by first | omega | (simp; done) | (simp; omega)) _ | with_reducible assumption))⟩
      | some o =>
        have H5 : Hid (nxt l x = if gon l x.f.i then 46 else tim l x) := H4.out.trans (by rw [hf])
        clear H4 hf
        have c0 := hC1.cell 0
        have c1 := hC1.cell 1
        have c2 := hC1.cell 2
        have c3 := hC1.cell 3
        have c4 := hC1.cell 4
        have cl := hC1.lt
        have hC2 := hC1.alloc (.cells #[.int .i64 o.i, .int .i64 o.c, .int .i64 o.g, .int .i64 o.t, .int .i64 o.r] 46)
        have hb2 := Mw.bl_alloc hb1 (.cells #[.int .i64 o.i, .int .i64 o.c, .int .i64 o.g, .int .i64 o.t, .int .i64 o.r] 46)
        go_wp2_with fail
        refine (rgone_any l A c x.f.i _ (HR.out.old hb2) HL.out).mono ?_
        rintro e w3 ⟨rfl, hbq⟩
        have hC3 := hC2.old hbq
        have hb3 := bl_trans hb2 hbq
        clear hbq hC1 hC2 hb1 hb2
        clear c0 c1 c2 c3 c4 cl
        cases hg : gon l x.f.i
        · have H6 := Lib.hid (H5.out.trans (if_neg (by rw [hg]; simp)))
          clear H5 hg
          have c0 := hC3.cell 0
          have c1 := hC3.cell 1
          have c2 := hC3.cell 2
          have c3 := hC3.cell 3
          have c4 := hC3.cell 4
          have cl := hC3.lt
          by_cases hn : l.length = 0
          · have u0 : decide ((0 : Int) < l.length) = false := decide_eq_false (by omega)
            have H9 : Hid (nxt l x = 0) := H6.out.trans (by
              obtain rfl := List.length_eq_zero_iff.1 hn
              unfold tim
              exact if_neg (by have := HT0.out; simp [lst]; omega))
            have u1 : ¬ (0 : Int) < l.length := by omega
            have u6 : decide (0 < l.length) = false := decide_eq_false (by omega)
            have u7 : ¬ 0 < l.length := by omega
            clear hn
            go_wp2_with fail
            refine Mm.region_ext (by kernel_rfl) (by kernel_rfl) ?_; (repeat (first | go_big_quiet_step (fail) | quiet_step (fail))); refine wpQuiet_nil ?_
            intro wz hbz
            go_wp2_with fail
            go_ret
            exact ⟨by rw [H9.out] <;> rfl, bl_trans hb3 hbz⟩
          · obtain ⟨b, off, rfl, hbl, d0, d1, d2, d3, d4, d5⟩ := le_at (HR.out.old hb3) (l.length - 1) (by omega)
            have hlst : lst l = (ge l (l.length - 1)).f.t := lst_ge (by omega)
            obtain ⟨M, hM⟩ : ∃ M, M = l.length - 1 := ⟨_, rfl⟩
            rw [← hlst, ← hM] at d4
            rw [← hM] at d0 d1 d2 d3 d5
            have hw : IntKind.i64.wrap ((l.length : Int) - 1) = (M : Int) := by rw [IntWalk.i64_in _ (by omega)]; omega
            have u0 : decide ((0 : Int) < l.length) = true := decide_eq_true (by omega)
            have u1 : (0 : Int) < l.length := by omega
            have u6 : decide (0 < l.length) = true := decide_eq_true (by omega)
            have u7 : 0 < l.length := by omega
            have u2 : (0 : Int) ≤ (M : Int) := by omega
            have u3 : (M : Int) < l.length := by omega
            have u4 : M < l.length := by omega
            clear hn hM hlst
            by_cases ht : x.f.t < lst l
            · have H9 : Hid (nxt l x = 43) := H6.out.trans (if_pos ht)
              have u5 : decide (x.f.t < lst l) = true := decide_eq_true ht
              go_wp2_with fail
              refine Mm.region_ext (by kernel_rfl) (by kernel_rfl) ?_; (repeat (first | go_big_quiet_step (fail) | quiet_step (fail))); refine wpQuiet_nil ?_
              intro wz hbz
              go_wp2_with fail
              go_ret
              exact ⟨by rw [H9.out] <;> rfl, bl_trans hb3 hbz⟩
            · have H9 : Hid (nxt l x = 0) := H6.out.trans (if_neg ht)
              have u5 : decide (x.f.t < lst l) = false := decide_eq_false ht
              go_wp2_with fail
              refine Mm.region_ext (by kernel_rfl) (by kernel_rfl) ?_; (repeat (first | go_big_quiet_step (fail) | quiet_step (fail))); refine wpQuiet_nil ?_
              intro wz hbz
              go_wp2_with fail
              go_ret
              exact ⟨by rw [H9.out] <;> rfl, bl_trans hb3 hbz⟩
        · have H : Hid (nxt l x = 46) := H5.out.trans (if_pos hg)
          clear H5 hg
          go_wp2_with fail
          go_ret
          exact ⟨by rw [H.out] <;> rfl, by (repeat (first | with_reducible exact Below.refl _ _ | with_reducible refine bl_drewN ?_ _ | with_reducible refine Below.drew ?_ | with_reducible refine bl_alloc ?_ _ | with_reducible refine Below.alloc ?_ (by first | omega | (simp; done) | (simp; omega)) _ | with_reducible refine Below.setCell ?_ (by first | omega | (simp; done) | (simp; omega)) _ | with_reducible assumption))⟩
    · have H : Hid (nxt l x = 2) := H2.out.trans (if_neg hk1)
      have t1 : (x.k == 1) = false := beq_eq_false_iff_ne.2 hk1
      clear H2 hk1
      go_enter Tryz.func70, Tryz.ntmps70
      go_wp2_with fail
      go_ret
      exact ⟨by rw [H.out] <;> rfl, by (repeat (first | with_reducible exact Below.refl _ _ | with_reducible refine bl_drewN ?_ _ | with_reducible refine Below.drew ?_ | with_reducible refine bl_alloc ?_ _ | with_reducible refine Below.alloc ?_ (by first | omega | (simp; done) | (simp; omega)) _ | with_reducible refine Below.setCell ?_ (by first | omega | (simp; done) | (simp; omega)) _ | with_reducible assumption))⟩
end Go.Proofs.YtdikoffppjoomaaGreat.Ct
