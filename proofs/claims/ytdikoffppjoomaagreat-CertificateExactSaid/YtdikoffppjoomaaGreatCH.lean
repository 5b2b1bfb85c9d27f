/- Walks: the ledger: check, drop, add. -/
import Derived.Test.YtdikoffppjoomaaGreatCD
import Derived.WalkKit
import Derived.WalkSpells
import Derived.WalkLawsBesides
import Derived.Deep.QuietTactic
import Derived.BigQuiet
import Derived.Deep.Draws
import Derived.Deep.AppendLies
import Derived.Laws.OwnMore
import Derived.Laws.BytesArg
import Derived.Lib.Hide
import Derived.Deep.LoopGhost
import Derived.Test.YtdikoffppjoomaaGreatCA
import Derived.Test.YtdikoffppjoomaaGreatMem
namespace Go.Proofs.YtdikoffppjoomaaGreat.Ct
open Go.RowKit Go.Proofs.YtdikoffppjoomaaGreat.Dg
open Go.Proofs.YtdikoffppjoomaaGreat.Mw (I64 ret_int ret_bool Bk bl_trans own_ints RdI RdR ge ge_lt gi)
set_option linter.unusedVariables false
set_option linter.unusedSimpArgs false
set_option maxRecDepth 100000

/-- The error of an entry, in the ledger's order. -/
theorem nxt_led (L : List Le) (x : Le) : nxt L x = if 256 ≤ L.length then 3 else if (if x.k = 0 then vld x.f else if x.k = 1 then rvk x.f else false) = false then 2
    else if x.k = 0 ∧ (fnd L x.f.i).isSome = true then 5 else if cgo L x ≠ 0 then cgo L x else if x.k = 0 ∧ x.f.r = 0 ∧ hol L x.f.c = true then 9 else tim L x := by
  unfold nxt
  by_cases h256 : 256 ≤ L.length
  · rw [if_pos h256, if_pos h256]
  rw [if_neg h256, if_neg h256]
  by_cases hk : x.k = 0
  · rw [if_pos hk, if_pos hk]
    by_cases hv : vld x.f = false
    · rw [if_pos hv, if_pos hv]
    rw [if_neg hv, if_neg hv]
    by_cases hf : (fnd L x.f.i).isSome = true
    · rw [if_pos hf, if_pos ⟨hk, hf⟩]
    rw [if_neg hf, if_neg (show ¬ (x.k = 0 ∧ (fnd L x.f.i).isSome = true) from fun h => hf h.2)]
    by_cases hr : x.f.r = 0
    · have hc : cgo L x = 0 := if_pos ⟨hk, hr⟩
      rw [if_pos hr, if_neg (show ¬ cgo L x ≠ 0 from fun h => h hc)]
      by_cases hh : hol L x.f.c = true
      · rw [if_pos hh, if_pos ⟨hk, hr, hh⟩]
      · rw [if_neg hh, if_neg (show ¬ (x.k = 0 ∧ x.f.r = 0 ∧ hol L x.f.c = true) from fun h => hh h.2.2)]
    · rw [if_neg hr]
      unfold cgo
      rw [if_neg (show ¬ (x.k = 0 ∧ x.f.r = 0) from fun h => hr h.2), if_pos hk]
      cases fnd L x.f.r with
      | none => simp
      | some o =>
        by_cases ho : o.c = x.f.c
        · cases gon L x.f.r
          · simp [ho, hr]
          · simp [ho]
        · simp [ho, hk]
  · rw [if_neg hk, if_neg hk]
    by_cases h1 : x.k = 1
    · rw [if_pos h1, if_pos h1]
      by_cases hv : rvk x.f = false
      · rw [if_pos hv, if_pos hv]
      rw [if_neg hv, if_neg hv, if_neg (show ¬ (x.k = 0 ∧ (fnd L x.f.i).isSome = true) from fun h => hk h.1)]
      unfold cgo
      rw [if_neg (show ¬ (x.k = 0 ∧ x.f.r = 0) from fun h => hk h.1), if_neg hk]
      cases fnd L x.f.i with
      | none => simp
      | some o => cases gon L x.f.i <;> simp [hk]
    · rw [if_neg h1, if_neg h1, if_pos rfl]
set_option maxHeartbeats 20000000 in
theorem check_any (L : List Le) (x : Le) (g b1 b2 b3 : Nat) (w : World) (h : LM w g L b1 b2 b3) (hx : Le64 x) (h256 : L.length ≤ 256) : Calls Tryz.prog 103 #[.pointer (some ⟨g, 0, none⟩), lev x] w fun e w' => e = .returned (.int .i64 (nxt L x)) ∧ Below w.heap.size w w' := by
  have h1 := h.alloc (.cells #[.int .i64 x.k, .int .i64 x.f.i, .int .i64 x.f.c, .int .i64 x.f.g, .int .i64 x.f.t, .int .i64 x.f.r] 54)
  obtain ⟨c0, c1, c2, c3, c4⟩ := h1.at
  have hlt := h.lt.1
  have Hn := Lib.hid (nxt_led L x)
  by_cases hl : 256 ≤ L.length
  · have hl' : (256 : Int) ≤ L.length := by omega
    have H : Hid (nxt L x = 3) := Hn.out.trans (if_pos hl)
    rw [H.out]
    clear h h1 Hn
    go_enter Tryz.func103, Tryz.ntmps103
    go_wp2_with fail
    go_ret
    exact ⟨rfl, by (repeat (first | with_reducible exact Below.refl _ _ | with_reducible refine bl_drewN ?_ _ | with_reducible refine Below.drew ?_ | with_reducible refine bl_alloc ?_ _ | with_reducible refine Below.alloc ?_ (by first | omega | (simp; done) | (simp; omega)) _ | with_reducible refine Below.setCell ?_ (by first | omega | (simp; done) | (simp; omega)) _ | with_reducible assumption))⟩
  have hl' : ¬ (256 : Int) ≤ L.length := by omega
  have Hn2 := Lib.hid (Hn.out.trans (if_neg hl))
  clear Hn
  have HV := Lib.hid (validentry_any x (w.alloc (.cells #[.int .i64 x.k, .int .i64 x.f.i, .int .i64 x.f.c, .int .i64 x.f.g, .int .i64 x.f.t, .int .i64 x.f.r] 54)))
  cases hv : (if x.k = 0 then vld x.f else if x.k = 1 then rvk x.f else false)
  · rw [hv] at HV Hn2
    have H : Hid (nxt L x = 2) := Hn2.out.trans (if_pos rfl)
    rw [H.out]
    clear h h1 Hn2 hv hl
    go_enter Tryz.func103, Tryz.ntmps103
    go_wp2_with fail
    refine HV.out.mono ?_
    rintro e w2 ⟨rfl, hb2⟩
    go_wp2_with fail
    go_ret
    exact ⟨rfl, bl_trans (by (repeat (first | with_reducible exact Below.refl _ _ | with_reducible refine bl_drewN ?_ _ | with_reducible refine Below.drew ?_ | with_reducible refine bl_alloc ?_ _ | with_reducible refine Below.alloc ?_ (by first | omega | (simp; done) | (simp; omega)) _ | with_reducible refine Below.setCell ?_ (by first | omega | (simp; done) | (simp; omega)) _ | with_reducible assumption))) hb2⟩
  rw [hv] at HV Hn2
  have Hn3 := Lib.hid (Hn2.out.trans (if_neg (by simp)))
  clear hv Hn2 hl h256
  go_enter Tryz.func103, Tryz.ntmps103
  go_wp2_with fail
  refine HV.out.mono ?_
  rintro e w2 ⟨rfl, hb2⟩
  have h2 := (h1.old hb2).alloc (.cells #[.int .i64 x.f.i, .int .i64 x.f.c, .int .i64 x.f.g, .int .i64 x.f.t, .int .i64 x.f.r] 46)
  have hX : Bk w2 w.heap.size 54 #[.int .i64 x.k, .int .i64 x.f.i, .int .i64 x.f.c, .int .i64 x.f.g, .int .i64 x.f.t, .int .i64 x.f.r] := (Mw.Bk.new _ _ _).old hb2
  have hbw : Below w.heap.size w w2 := bl_trans (by (repeat (first | with_reducible exact Below.refl _ _ | with_reducible refine bl_drewN ?_ _ | with_reducible refine Below.drew ?_ | with_reducible refine bl_alloc ?_ _ | with_reducible refine Below.alloc ?_ (by first | omega | (simp; done) | (simp; omega)) _ | with_reducible refine Below.setCell ?_ (by first | omega | (simp; done) | (simp; omega)) _ | with_reducible assumption))) hb2
  clear h1 hb2 HV c0 c1 c2 c3 c4
  have hlw : w.heap.size < w2.heap.size := hX.lt
  have hlg : g < w2.heap.size := by omega
  have hXc := hX.alloc (.cells #[.int .i64 x.f.i, .int .i64 x.f.c, .int .i64 x.f.g, .int .i64 x.f.t, .int .i64 x.f.r] 46)
  have hC : Bk (w2.alloc (.cells #[.int .i64 x.f.i, .int .i64 x.f.c, .int .i64 x.f.g, .int .i64 x.f.t, .int .i64 x.f.r] 46)) w2.heap.size 46 #[.int .i64 x.f.i, .int .i64 x.f.c, .int .i64 x.f.g, .int .i64 x.f.t, .int .i64 x.f.r] := Mw.Bk.new _ _ _
  have hbW : Below w.heap.size w (w2.alloc (.cells #[.int .i64 x.f.i, .int .i64 x.f.c, .int .i64 x.f.g, .int .i64 x.f.t, .int .i64 x.f.r] 46)) := bl_alloc hbw _
  have x0 := hX.cell 0
  have x1 := hX.cell 1
  have x2 := hX.cell 2
  have x3 := hX.cell 3
  have x4 := hX.cell 4
  have x5 := hX.cell 5
  obtain ⟨c0, c1, c2, c3, c4⟩ := h2.at
  have q1 : ∀ y, (Instr.lookup 94 (.map (some b1)) (.int .i64 x.f.i) true).run Tryz.prog (Mm.ext (w2.alloc (.cells #[.int .i64 x.f.i, .int .i64 x.f.c, .int .i64 x.f.g, .int .i64 x.f.t, .int .i64 x.f.r] 46)) y) = _ := fun y => (h2.old (Mm.ext_below _ y)).own (id := x.f.i) hx.2.1
  by_cases hA : x.k = 0 ∧ (fnd L x.f.i).isSome = true
  · have k0 : (x.k == 0) = true := by rw [hA.1]; rfl
    rw [hA.2] at q1
    have H : Hid (nxt L x = 5) := Hn3.out.trans (if_pos hA)
    clear Hn3 hA h h2 hXc hC
    go_wp2_with fail
    refine Mm.region_ext (by kernel_rfl) (by kernel_rfl) ?_; (repeat (first | go_big_quiet_step (fail) | quiet_step (fail))); refine wpQuiet_nil ?_
    intro w5 hb5
    go_wp2_with fail
    go_ret
    exact ⟨by rw [H.out] <;> rfl, bl_trans hbW hb5⟩
  have Hn4 := Lib.hid (Hn3.out.trans (if_neg hA))
  clear Hn3
  by_cases hk : x.k = 0
  · have k0 : (x.k == 0) = true := by rw [hk]; rfl
    have hf : (fnd L x.f.i).isSome = false := by
      cases e : (fnd L x.f.i).isSome
      · rfl
      · exact absurd ⟨hk, e⟩ hA
    rw [hf] at q1
    clear hf
    have HK := Lib.hid hk
    clear hA hk
    go_wp2_with fail
    refine Mm.region_ext (by kernel_rfl) (by kernel_rfl) ?_; (repeat (first | go_big_quiet_step (fail) | quiet_step (fail))); refine wpQuiet_nil ?_
    intro w5 hb5
    have h5 := h2.old hb5
    have hX5 := hXc.old hb5
    have hC5 := hC.old hb5
    have hb6 := bl_trans hbW hb5
    clear h2 hXc hC hbW hb5 q1 x0 x1 x2 x3 x4 x5 c0 c1 c2 c3 c4 h
    have x0 := hX5.cell 0
    have x1 := hX5.cell 1
    have x2 := hX5.cell 2
    have x3 := hX5.cell 3
    have x4 := hX5.cell 4
    have x5 := hX5.cell 5
    have l1 := hX5.lt
    have l2 := hC5.lt
    go_wp2_with fail
    refine (checkgone_any L x g b1 b2 b3 _ h5 hx).mono ?_
    rintro e w6 ⟨rfl, hb7⟩
    have h6 := h5.old hb7
    have hC6 := hC5.old hb7
    have hbl := bl_trans hb6 hb7
    clear h5 hX5 hC5 hb6 hb7 x0 x1 x2 x3 x4 x5 l1 l2
    have z0 := hC6.cell 0
    have z1 := hC6.cell 1
    have z3 := hC6.cell 3
    have z4 := hC6.cell 4
    have l2 := hC6.lt
    have l1 := h6.lt.1
    obtain ⟨c0, c1, c2, c3, c4⟩ := h6.at
    have q2 : ∀ y, (Instr.lookup 96 (.map (some b3)) (.int .i64 x.f.c) false).run Tryz.prog (Mm.ext w6 y) = _ := fun y => (h6.old (Mm.ext_below _ y)).hol (c := x.f.c) hx.2.2.1
    clear h6 hC6
    by_cases hc : cgo L x = 0
    · have Hn5 := Lib.hid (Hn4.out.trans (if_neg (fun h => h hc)))
      have g0 : (cgo L x != 0) = false := by rw [hc]; rfl
      clear Hn4 hc
      by_cases hr : x.f.r = 0
      · have r0 : (x.f.r == 0) = true := by rw [hr]; rfl
        cases hh : hol L x.f.c
        · rw [hh] at q2
          have Hn6 := Lib.hid (Hn5.out.trans (if_neg (show ¬ (x.k = 0 ∧ x.f.r = 0 ∧ hol L x.f.c = true) from fun h => by rw [hh] at h; cases h.2.2)))
          clear Hn5 hh hr
          go_wp2_with fail
          refine Mm.region_ext (by kernel_rfl) (by kernel_rfl) ?_; (repeat (first | go_big_quiet_step (fail) | quiet_step (fail))); refine wpQuiet_nil ?_
          intro w7 hb8
          replace hbl := bl_trans hbl hb8
          replace z3 : w7.cell? ⟨w2.heap.size, 3, none⟩ = some (.int .i64 x.f.t) := (hb8.cell (p := ⟨w2.heap.size, 3, none⟩) l2).trans z3
          replace c1 : w7.cell? ⟨g, 1, none⟩ = some (.int .i64 (lst L)) := (hb8.cell (p := ⟨g, 1, none⟩) l1).trans c1
          replace l1 : g < w7.heap.size := Nat.lt_of_lt_of_le l1 hb8.size
          replace l2 : w2.heap.size < w7.heap.size := Nat.lt_of_lt_of_le l2 hb8.size
          clear hb8 z0 z1 z4 c0 c2 c3 c4 q2
          by_cases ht : x.f.t < lst L
          · have H : Hid (nxt L x = 43) := Hn6.out.trans (if_pos ht)
            clear Hn6
            go_wp2_with fail
            refine Mm.region_ext (by kernel_rfl) (by kernel_rfl) ?_; (repeat (first | go_big_quiet_step (fail) | quiet_step (fail))); refine wpQuiet_nil ?_
            intro wz hbz
            go_wp2_with fail
            go_ret
            exact ⟨by rw [H.out] <;> rfl, bl_trans hbl hbz⟩
          · have H : Hid (nxt L x = 0) := Hn6.out.trans (if_neg ht)
            have ht' : lst L ≤ x.f.t := by omega
            clear Hn6
            go_wp2_with fail
            refine Mm.region_ext (by kernel_rfl) (by kernel_rfl) ?_; (repeat (first | go_big_quiet_step (fail) | quiet_step (fail))); refine wpQuiet_nil ?_
            intro wz hbz
            go_wp2_with fail
            go_ret
            exact ⟨by rw [H.out] <;> rfl, bl_trans hbl hbz⟩
        · rw [hh] at q2
          have H : Hid (nxt L x = 9) := Hn5.out.trans (if_pos ⟨HK.out, hr, hh⟩)
          clear Hn5 hh hr
          go_wp2_with fail
          refine Mm.region_ext (by kernel_rfl) (by kernel_rfl) ?_; (repeat (first | go_big_quiet_step (fail) | quiet_step (fail))); refine wpQuiet_nil ?_
          intro w7 hb8
          go_wp2_with fail
          go_ret
          exact ⟨by rw [H.out] <;> rfl, bl_trans hbl hb8⟩
      · have r0 : (x.f.r == 0) = false := beq_eq_false_iff_ne.2 hr
        have Hn6 := Lib.hid (Hn5.out.trans (if_neg (show ¬ (x.k = 0 ∧ x.f.r = 0 ∧ hol L x.f.c = true) from fun h => hr h.2.1)))
        clear Hn5 hr
        go_wp2_with fail
        refine Mm.region_ext (by kernel_rfl) (by kernel_rfl) ?_; (repeat (first | go_big_quiet_step (fail) | quiet_step (fail))); refine wpQuiet_nil ?_
        intro w7 hb8
        replace hbl := bl_trans hbl hb8
        replace z3 : w7.cell? ⟨w2.heap.size, 3, none⟩ = some (.int .i64 x.f.t) := (hb8.cell (p := ⟨w2.heap.size, 3, none⟩) l2).trans z3
        replace c1 : w7.cell? ⟨g, 1, none⟩ = some (.int .i64 (lst L)) := (hb8.cell (p := ⟨g, 1, none⟩) l1).trans c1
        replace l1 : g < w7.heap.size := Nat.lt_of_lt_of_le l1 hb8.size
        replace l2 : w2.heap.size < w7.heap.size := Nat.lt_of_lt_of_le l2 hb8.size
        clear hb8 z0 z1 z4 c0 c2 c3 c4 q2
        by_cases ht : x.f.t < lst L
        · have H : Hid (nxt L x = 43) := Hn6.out.trans (if_pos ht)
          clear Hn6
          go_wp2_with fail
          refine Mm.region_ext (by kernel_rfl) (by kernel_rfl) ?_; (repeat (first | go_big_quiet_step (fail) | quiet_step (fail))); refine wpQuiet_nil ?_
          intro wz hbz
          go_wp2_with fail
          go_ret
          exact ⟨by rw [H.out] <;> rfl, bl_trans hbl hbz⟩
        · have H : Hid (nxt L x = 0) := Hn6.out.trans (if_neg ht)
          have ht' : lst L ≤ x.f.t := by omega
          clear Hn6
          go_wp2_with fail
          refine Mm.region_ext (by kernel_rfl) (by kernel_rfl) ?_; (repeat (first | go_big_quiet_step (fail) | quiet_step (fail))); refine wpQuiet_nil ?_
          intro wz hbz
          go_wp2_with fail
          go_ret
          exact ⟨by rw [H.out] <;> rfl, bl_trans hbl hbz⟩
    · have g0 : (cgo L x != 0) = true := bne_iff_ne.2 hc
      have H : Hid (nxt L x = cgo L x) := Hn4.out.trans (if_pos hc)
      clear Hn4 hc
      go_wp2_with fail
      go_ret
      exact ⟨by rw [H.out] <;> rfl, hbl⟩
  · have k0 : (x.k == 0) = false := beq_eq_false_iff_ne.2 hk
    have HK := Lib.hid hk
    clear hA hk
    go_wp2_with fail
    refine Mm.region_ext (by kernel_rfl) (by kernel_rfl) ?_; (repeat (first | go_big_quiet_step (fail) | quiet_step (fail))); refine wpQuiet_nil ?_
    intro w5 hb5
    have h5 := h2.old hb5
    have hX5 := hXc.old hb5
    have hC5 := hC.old hb5
    have hb6 := bl_trans hbW hb5
    clear h2 hXc hC hbW hb5 q1 x0 x1 x2 x3 x4 x5 c0 c1 c2 c3 c4 h
    have x0 := hX5.cell 0
    have x1 := hX5.cell 1
    have x2 := hX5.cell 2
    have x3 := hX5.cell 3
    have x4 := hX5.cell 4
    have x5 := hX5.cell 5
    have l1 := hX5.lt
    have l2 := hC5.lt
    go_wp2_with fail
    refine (checkgone_any L x g b1 b2 b3 _ h5 hx).mono ?_
    rintro e w6 ⟨rfl, hb7⟩
    have h6 := h5.old hb7
    have hC6 := hC5.old hb7
    have hbl := bl_trans hb6 hb7
    clear h5 hX5 hC5 hb6 hb7 x0 x1 x2 x3 x4 x5 l1 l2
    have z0 := hC6.cell 0
    have z1 := hC6.cell 1
    have z3 := hC6.cell 3
    have z4 := hC6.cell 4
    have l2 := hC6.lt
    have l1 := h6.lt.1
    obtain ⟨c0, c1, c2, c3, c4⟩ := h6.at
    have q2 : ∀ y, (Instr.lookup 96 (.map (some b3)) (.int .i64 x.f.c) false).run Tryz.prog (Mm.ext w6 y) = _ := fun y => (h6.old (Mm.ext_below _ y)).hol (c := x.f.c) hx.2.2.1
    clear h6 hC6
    by_cases hc : cgo L x = 0
    · have Hn5 := Lib.hid (Hn4.out.trans (if_neg (fun h => h hc)))
      have g0 : (cgo L x != 0) = false := by rw [hc]; rfl
      clear Hn4 hc
      have Hn6 := Lib.hid (Hn5.out.trans (if_neg (show ¬ (x.k = 0 ∧ x.f.r = 0 ∧ hol L x.f.c = true) from fun h => HK.out h.1)))
      clear Hn5
      go_wp2_with fail
      refine Mm.region_ext (by kernel_rfl) (by kernel_rfl) ?_; (repeat (first | go_big_quiet_step (fail) | quiet_step (fail))); refine wpQuiet_nil ?_
      intro w7 hb8
      replace hbl := bl_trans hbl hb8
      replace z3 : w7.cell? ⟨w2.heap.size, 3, none⟩ = some (.int .i64 x.f.t) := (hb8.cell (p := ⟨w2.heap.size, 3, none⟩) l2).trans z3
      replace c1 : w7.cell? ⟨g, 1, none⟩ = some (.int .i64 (lst L)) := (hb8.cell (p := ⟨g, 1, none⟩) l1).trans c1
      replace l1 : g < w7.heap.size := Nat.lt_of_lt_of_le l1 hb8.size
      replace l2 : w2.heap.size < w7.heap.size := Nat.lt_of_lt_of_le l2 hb8.size
      clear hb8 z0 z1 z4 c0 c2 c3 c4 q2
      by_cases ht : x.f.t < lst L
      · have H : Hid (nxt L x = 43) := Hn6.out.trans (if_pos ht)
        clear Hn6
        go_wp2_with fail
        refine Mm.region_ext (by kernel_rfl) (by kernel_rfl) ?_; (repeat (first | go_big_quiet_step (fail) | quiet_step (fail))); refine wpQuiet_nil ?_
        intro wz hbz
        go_wp2_with fail
        go_ret
        exact ⟨by rw [H.out] <;> rfl, bl_trans hbl hbz⟩
      · have H : Hid (nxt L x = 0) := Hn6.out.trans (if_neg ht)
        have ht' : lst L ≤ x.f.t := by omega
        clear Hn6
        go_wp2_with fail
        refine Mm.region_ext (by kernel_rfl) (by kernel_rfl) ?_; (repeat (first | go_big_quiet_step (fail) | quiet_step (fail))); refine wpQuiet_nil ?_
        intro wz hbz
        go_wp2_with fail
        go_ret
        exact ⟨by rw [H.out] <;> rfl, bl_trans hbl hbz⟩
    · have g0 : (cgo L x != 0) = true := bne_iff_ne.2 hc
      have H : Hid (nxt L x = cgo L x) := Hn4.out.trans (if_pos hc)
      clear Hn4 hc
      go_wp2_with fail
      go_ret
      exact ⟨by rw [H.out] <;> rfl, hbl⟩
end Go.Proofs.YtdikoffppjoomaaGreat.Ct
namespace Go.Proofs.YtdikoffppjoomaaGreat.Ct
open Go.RowKit Go.Proofs.YtdikoffppjoomaaGreat.Dg
open Go.Proofs.YtdikoffppjoomaaGreat.Mw (I64 ret_int ret_bool Bk bl_trans own_ints RdI RdR ge ge_lt gi)
set_option linter.unusedVariables false
set_option linter.unusedSimpArgs false
set_option maxRecDepth 100000

/-- Only the ledger, and what is new, has turned. -/
def GL (w w' : World) (g b1 b2 b3 : Nat) : Prop := w'.os = w.os ∧ w'.tape = w.tape ∧ w'.output = w.output ∧ w.heap.size ≤ w'.heap.size ∧ ∀ i, i < w.heap.size → i ≠ g → i ≠ b1 → i ≠ b2 → i ≠ b3 → w'.heap[i]? = w.heap[i]?
section
variable {a b c w w' : World} {g b1 b2 b3 : Nat}
theorem GL.refl (w : World) : GL w w g b1 b2 b3 := ⟨rfl, rfl, rfl, Nat.le_refl _, fun _ _ _ _ _ _ => rfl⟩
theorem GL.trans (h : GL a b g b1 b2 b3) (k : GL b c g b1 b2 b3) : GL a c g b1 b2 b3 :=
  ⟨k.1.trans h.1, k.2.1.trans h.2.1, k.2.2.1.trans h.2.2.1, Nat.le_trans h.2.2.2.1 k.2.2.2.1, fun i hi e0 e1 e2 e3 => (k.2.2.2.2 i (Nat.lt_of_lt_of_le hi h.2.2.2.1) e0 e1 e2 e3).trans (h.2.2.2.2 i hi e0 e1 e2 e3)⟩
theorem GL.bl (h : GL a b g b1 b2 b3) (k : Below b.heap.size b c) : GL a c g b1 b2 b3 :=
  h.trans ⟨k.os, k.tape, k.output, k.size, fun i hi _ _ _ _ => k.block i hi⟩
theorem GL.gb (h : GL a b g b1 b2 b3) {r : Nat} (k : b.grownBy c (some r)) (hr : r = g ∨ r = b1 ∨ r = b2 ∨ r = b3) : GL a c g b1 b2 b3 :=
  h.trans ⟨k.os, k.tape, k.output, k.size, fun i hi e0 e1 e2 e3 => k.block i hi (by intro e; injection e with e; omega)⟩
theorem GL.set (h : GL a b g b1 b2 b3) (i : Nat) (v : Value) : GL a (b.setCell ⟨g, i, none⟩ v) g b1 b2 b3 :=
  h.gb (r := g) (Mw.gb_set (Mw.gb_refl _ _) (.inl rfl) v) (.inl rfl)
theorem GL.alloc (h : GL a b g b1 b2 b3) (o : Obj) : GL a (b.alloc o) g b1 b2 b3 := h.bl (Below.alloc (Below.refl _ _) (Nat.le_refl _) o)
theorem GL.below {n : Nat} (h : GL w w' g b1 b2 b3) (h0 : n ≤ g) (h1 : n ≤ b1) (h2 : n ≤ b2) (h3 : n ≤ b3) (hn : n ≤ w.heap.size) : Below n w w' :=
  ⟨h.1, h.2.1, h.2.2.1, h.2.2.2.1, fun i hi => h.2.2.2.2 i (by omega) (by omega) (by omega) (by omega) (by omega)⟩
theorem GL.bk {x : Nat} {T : TypeId} {cs : Array Value} (h : GL w w' g b1 b2 b3) (hx : Bk w x T cs) (h0 : x ≠ g) (h1 : x ≠ b1) (h2 : x ≠ b2) (h3 : x ≠ b3) : Bk w' x T cs := (h.2.2.2.2 x hx.lt h0 h1 h2 h3).trans hx
end
/-- Block g is a ledger. -/
structure LG (w : World) (g b1 b2 b3 : Nat) (n t : Int) (k1 k2 k3 : Nat) (f1 f2 f3 : Int → Option Value) : Prop where
  blk : Bk w g 98 #[.int .i64 n, .int .i64 t, .map (some b1), .map (some b2), .map (some b3)]
  m1 : MapF RI w b1 k1 f1
  m2 : MapF RC w b2 k2 f2
  m3 : MapF RB w b3 k3 f3
  n12 : b1 ≠ b2
  n13 : b1 ≠ b3
  n23 : b2 ≠ b3
  n1 : g ≠ b1
  n2 : g ≠ b2
  n3 : g ≠ b3
section
variable {w w' : World} {g b1 b2 b3 k1 k2 k3 : Nat} {n t : Int} {f1 f2 f3 : Int → Option Value} {L : List Le}
theorem LM.lg (h : LM w g L b1 b2 b3) : LG w g b1 b2 b3 L.length (lst L) L.length L.length L.length (ownf L) (curf L) (holf L) := ⟨h.blk, h.m1, h.m2, h.m3, h.n12, h.n13, h.n23, h.n1, h.n2, h.n3⟩
theorem LG.old (h : LG w g b1 b2 b3 n t k1 k2 k3 f1 f2 f3) (hb : Below w.heap.size w w') : LG w' g b1 b2 b3 n t k1 k2 k3 f1 f2 f3 := ⟨h.blk.old hb, h.m1.old hb, h.m2.old hb, h.m3.old hb, h.n12, h.n13, h.n23, h.n1, h.n2, h.n3⟩
theorem LG.alloc (h : LG w g b1 b2 b3 n t k1 k2 k3 f1 f2 f3) (o : Obj) : LG (w.alloc o) g b1 b2 b3 n t k1 k2 k3 f1 f2 f3 := ⟨h.blk.alloc o, h.m1.alloc o, h.m2.alloc o, h.m3.alloc o, h.n12, h.n13, h.n23, h.n1, h.n2, h.n3⟩
theorem LG.size (h : LG w g b1 b2 b3 n t k1 k2 k3 f1 f2 f3) (k : Int) : LG (w.setCell ⟨g, 0, none⟩ (.int .i64 k)) g b1 b2 b3 k t k1 k2 k3 f1 f2 f3 := ⟨h.blk.set 0 _, h.m1.far (Ne.symm h.n1) _, h.m2.far (Ne.symm h.n2) _, h.m3.far (Ne.symm h.n3) _, h.n12, h.n13, h.n23, h.n1, h.n2, h.n3⟩
theorem LG.time (h : LG w g b1 b2 b3 n t k1 k2 k3 f1 f2 f3) (k : Int) : LG (w.setCell ⟨g, 1, none⟩ (.int .i64 k)) g b1 b2 b3 n k k1 k2 k3 f1 f2 f3 := ⟨h.blk.set 1 _, h.m1.far (Ne.symm h.n1) _, h.m2.far (Ne.symm h.n2) _, h.m3.far (Ne.symm h.n3) _, h.n12, h.n13, h.n23, h.n1, h.n2, h.n3⟩
theorem LG.at (h : LG w g b1 b2 b3 n t k1 k2 k3 f1 f2 f3) : w.cell? ⟨g, 0, none⟩ = some (.int .i64 n) ∧ w.cell? ⟨g, 1, none⟩ = some (.int .i64 t) ∧ w.cell? ⟨g, 2, none⟩ = some (.map (some b1)) ∧ w.cell? ⟨g, 3, none⟩ = some (.map (some b2)) ∧ w.cell? ⟨g, 4, none⟩ = some (.map (some b3)) :=
  ⟨h.blk.cell 0, h.blk.cell 1, h.blk.cell 2, h.blk.cell 3, h.blk.cell 4⟩
theorem LG.lt (h : LG w g b1 b2 b3 n t k1 k2 k3 f1 f2 f3) : g < w.heap.size ∧ b1 < w.heap.size ∧ b2 < w.heap.size ∧ b3 < w.heap.size := ⟨h.blk.lt, h.m1.lt, h.m2.lt, h.m3.lt⟩
theorem LG.own1 (h : LG w g b1 b2 b3 n t k1 k2 k3 f1 f2 f3) {id oc : Int} (hi : I64 id) (ho : f1 id = some (.int .i64 oc)) : (Instr.lookup 94 (.map (some b1)) (.int .i64 id) false).run Tryz.prog w = .ok (.int .i64 oc) w := by
  rw [h.m1.look1 inj_I Tryz.underlying94 (Tryz.zeroValue3 w) (RI_mk (by unfold I64; omega)) hi, ho]; rfl
theorem LG.put1 (h : LG w g b1 b2 b3 n t k1 k2 k3 f1 f2 f3) (hm : k1 < maxLen) {id c : Int} (hi : I64 id) (hc : I64 c) : ∃ w', (Instr.mapUpdate 94 (.map (some b1)) (.int .i64 id) (.int .i64 c)).run Tryz.prog w = .ok () w' ∧ LG w' g b1 b2 b3 n t (k1 + 1) k2 k3 (fun x => if x = id then some (.int .i64 c) else f1 x) f2 f3 ∧ w.grownBy w' (some b1) := by
  obtain ⟨w', h1, h2, h3⟩ := h.m1.put Tryz.underlying94 hm hi (RI_mk hc)
  exact ⟨w', h1, ⟨h.blk.kept h3 h.n1, h2, (h.m2.grown h3 (by simpa using Ne.symm h.n12)), (h.m3.grown h3 (by simpa using Ne.symm h.n13)), h.n12, h.n13, h.n23, h.n1, h.n2, h.n3⟩, h3⟩
theorem LG.put2 (h : LG w g b1 b2 b3 n t k1 k2 k3 f1 f2 f3) (hm : k2 < maxLen) {id : Int} (hi : I64 id) (c : Cf) : ∃ w', (Instr.mapUpdate 95 (.map (some b2)) (.int .i64 id) (cfv c)).run Tryz.prog w = .ok () w' ∧ LG w' g b1 b2 b3 n t k1 (k2 + 1) k3 f1 (fun x => if x = id then some (cfv c) else f2 x) f3 ∧ w.grownBy w' (some b2) := by
  obtain ⟨w', h1, h2, h3⟩ := h.m2.put Tryz.underlying95 hm hi (RC_mk c)
  exact ⟨w', h1, ⟨h.blk.kept h3 h.n2, (h.m1.grown h3 (by simpa using h.n12)), h2, (h.m3.grown h3 (by simpa using Ne.symm h.n23)), h.n12, h.n13, h.n23, h.n1, h.n2, h.n3⟩, h3⟩
theorem LG.put3 (h : LG w g b1 b2 b3 n t k1 k2 k3 f1 f2 f3) (hm : k3 < maxLen) {c : Int} (hi : I64 c) : ∃ w', (Instr.mapUpdate 96 (.map (some b3)) (.int .i64 c) (.bool true)).run Tryz.prog w = .ok () w' ∧ LG w' g b1 b2 b3 n t k1 k2 (k3 + 1) f1 f2 (fun x => if x = c then some (.bool true) else f3 x) ∧ w.grownBy w' (some b3) := by
  obtain ⟨w', h1, h2, h3⟩ := h.m3.put Tryz.underlying96 hm hi (RB_mk true)
  exact ⟨w', h1, ⟨h.blk.kept h3 h.n3, (h.m1.grown h3 (by simpa using h.n13)), (h.m2.grown h3 (by simpa using h.n23)), h2, h.n12, h.n13, h.n23, h.n1, h.n2, h.n3⟩, h3⟩
theorem LG.del2 (h : LG w g b1 b2 b3 n t k1 k2 k3 f1 f2 f3) {id : Int} (hi : I64 id) (ty : TypeId) : ∃ w', (Builtin.delete_ #[95, 3] ty #[.map (some b2), .int .i64 id]).run Tryz.prog w = .ok (.tuple #[]) w' ∧ LG w' g b1 b2 b3 n t k1 k2 k3 f1 (fun x => if x = id then none else f2 x) f3 ∧ w.grownBy w' (some b2) := by
  obtain ⟨w', h1, h2, h3⟩ := h.m2.del Tryz.underlying95 hi ty
  exact ⟨w', h1, ⟨h.blk.kept h3 h.n2, h.m1.grown h3 (by simpa using h.n12), h2, h.m3.grown h3 (by simpa using Ne.symm h.n23), h.n12, h.n13, h.n23, h.n1, h.n2, h.n3⟩, h3⟩
theorem LG.del3 (h : LG w g b1 b2 b3 n t k1 k2 k3 f1 f2 f3) {id : Int} (hi : I64 id) (ty : TypeId) : ∃ w', (Builtin.delete_ #[96, 3] ty #[.map (some b3), .int .i64 id]).run Tryz.prog w = .ok (.tuple #[]) w' ∧ LG w' g b1 b2 b3 n t k1 k2 k3 f1 f2 (fun x => if x = id then none else f3 x) ∧ w.grownBy w' (some b3) := by
  obtain ⟨w', h1, h2, h3⟩ := h.m3.del Tryz.underlying96 hi ty
  exact ⟨w', h1, ⟨h.blk.kept h3 h.n3, h.m1.grown h3 (by simpa using h.n13), h.m2.grown h3 (by simpa using h.n23), h2, h.n12, h.n13, h.n23, h.n1, h.n2, h.n3⟩, h3⟩
end
theorem drop_any (g b1 b2 b3 k1 k2 k3 : Nat) (n t id oc : Int) (f1 f2 f3 : Int → Option Value) (w : World) (h : LG w g b1 b2 b3 n t k1 k2 k3 f1 f2 f3) (hi : I64 id) (hc : I64 oc) (ho : f1 id = some (.int .i64 oc)) :
    Calls Tryz.prog 104 #[.pointer (some ⟨g, 0, none⟩), .int .i64 id] w fun e w' => e = .returned (.tuple #[]) ∧ LG w' g b1 b2 b3 n t k1 k2 k3 f1 (fun x => if x = id then none else f2 x) (fun x => if x = oc then none else f3 x) ∧ GL w w' g b1 b2 b3 := by
  obtain ⟨c0, c1, c2, c3, c4⟩ := h.at
  have hl := h.lt.1
  have q1 : ∀ y, (Instr.lookup 94 (.map (some b1)) (.int .i64 id) false).run Tryz.prog (Mm.ext w y) = _ := fun y => (h.old (Mm.ext_below _ y)).own1 hi ho
  go_enter Tryz.func104, Tryz.ntmps104
  go_wp2_with fail
  refine Qt.region_ext_tail 10 (by kernel_rfl) (by kernel_rfl) ?_; simp only [List.take_succ_cons, List.take_zero, List.drop_succ_cons, List.drop_zero]; (repeat (first | go_big_quiet_step (fail) | quiet_step (fail))); refine wpQuiet_nil ?_
  intro w1 hb1
  have h1 := h.old hb1
  clear c0 c1 c2 c3 c4 hl q1
  obtain ⟨w2, hd2, h2, hg2⟩ := h1.del3 hc 0
  have hG2 : GL w w2 g b1 b2 b3 := (GL.refl w).bl hb1 |>.gb hg2 (.inr (.inr (.inr rfl)))
  clear h hb1 h1 hg2
  obtain ⟨c0, c1, c2, c3, c4⟩ := h2.at
  have hl := h2.lt.1
  go_wp2_with fail
  obtain ⟨w3, hd3, h3, hg3⟩ := h2.del2 hi 0
  rw [hd3]
  go_wp2_with fail
  refine bodyPost_end (results_none rfl _ _ _) rfl ?_
  exact ⟨rfl, h3, hG2.gb hg3 (.inr (.inr (.inl rfl)))⟩
end Go.Proofs.YtdikoffppjoomaaGreat.Ct
namespace Go.Proofs.YtdikoffppjoomaaGreat.Ct
open Go.RowKit Go.Proofs.YtdikoffppjoomaaGreat.Dg
open Go.Proofs.YtdikoffppjoomaaGreat.Mw (I64 ret_int ret_bool Bk bl_trans own_ints RdI RdR ge ge_lt gi)
set_option linter.unusedVariables false
set_option linter.unusedSimpArgs false
set_option maxRecDepth 100000

section
variable {w w' : World} {g b1 b2 b3 : Nat} {n t : Int} {L : List Le} {x : Le}
theorem lm_rev (I : Inv L) (h0 : nxt L x = 0) (hk : x.k ≠ 0) {o : Cf} (ho : fnd L x.f.i = some o)
    (h : LG w g b1 b2 b3 ((L.length : Int) + 1) x.f.t L.length L.length L.length (ownf L) (fun y => if y = x.f.i then none else curf L y) (fun y => if y = o.c then none else holf L y)) : LM w g (L ++ [x]) b1 b2 b3 := by
  have hl : (L ++ [x]).length = L.length + 1 := by simp
  refine ⟨?_, ?_, ?_, ?_, h.n12, h.n13, h.n23, h.n1, h.n2, h.n3⟩
  · rw [hl, lst_snoc]; exact h.blk
  · rw [hl]
    refine (h.m1.congr fun k _ => ?_).mono (Nat.le_succ _)
    unfold ownf; rw [fs_rev h0 hk]
  · rw [hl]
    refine (h.m2.congr fun k _ => ?_).mono (Nat.le_succ _)
    have := cu_rev h0 hk k
    unfold cu at this
    unfold curf
    by_cases e : k = x.f.i
    · rw [if_pos e] at this ⊢
      cases hg : gon (L ++ [x]) k
      · rw [hg] at this; rw [if_neg (by simp)] at this ⊢; rw [this]; rfl
      · rfl
    · rw [if_neg e] at this ⊢
      cases hg : gon (L ++ [x]) k <;> cases hg' : gon L k <;> rw [hg, hg'] at this <;> simp at this ⊢
      all_goals first | (rw [this]; done) | (rw [this]; rfl)
  · rw [hl]
    refine (h.m3.congr fun k _ => ?_).mono (Nat.le_succ _)
    unfold holf
    rw [ho_rev I h0 hk ho]
    by_cases e : k = o.c
    · rw [if_pos e, if_pos e]; rfl
    · rw [if_neg e, if_neg e]
theorem lm_iss (I : Inv L) (h0 : nxt L x = 0) (hk : x.k = 0) {f2 f3 : Int → Option Value} (h2 : ∀ k, k ≠ x.f.i → f2 k = if k = x.f.r then none else curf L k) (h3 : ∀ k, k ≠ x.f.c → f3 k = holf L k)
    (h : LG w g b1 b2 b3 ((L.length : Int) + 1) x.f.t (L.length + 1) (L.length + 1) (L.length + 1) (fun y => if y = x.f.i then some (.int .i64 x.f.c) else ownf L y) (fun y => if y = x.f.i then some (cfv x.f) else f2 y) (fun y => if y = x.f.c then some (.bool true) else f3 y)) : LM w g (L ++ [x]) b1 b2 b3 := by
  have hl : (L ++ [x]).length = L.length + 1 := by simp
  refine ⟨?_, ?_, ?_, ?_, h.n12, h.n13, h.n23, h.n1, h.n2, h.n3⟩
  · rw [hl, lst_snoc]; exact h.blk
  · rw [hl]
    refine (h.m1.congr fun k _ => ?_).mono (Nat.le_refl _)
    unfold ownf; rw [fs_iss I h0 hk]
    by_cases e : k = x.f.i
    · rw [if_pos e, if_pos e]; rfl
    · rw [if_neg e, if_neg e]
  · rw [hl]
    refine (h.m2.congr fun k _ => ?_).mono (Nat.le_refl _)
    have := cu_iss I h0 hk k
    unfold cu at this
    show (if k = x.f.i then _ else f2 k) = _
    by_cases e : k = x.f.i
    · rw [if_pos e] at this ⊢
      unfold curf
      cases hg : gon (L ++ [x]) k
      · rw [hg] at this; rw [if_neg (by simp)] at this ⊢; rw [this]; rfl
      · rw [hg] at this; simp at this
    · rw [if_neg e] at this ⊢
      rw [h2 k e]
      unfold curf
      by_cases e2 : k = x.f.r
      · rw [if_pos e2] at this ⊢
        cases hg : gon (L ++ [x]) k
        · rw [hg] at this; rw [if_neg (by simp)] at this ⊢; rw [this]; rfl
        · rfl
      · rw [if_neg e2] at this ⊢
        cases hg : gon (L ++ [x]) k <;> cases hg' : gon L k <;> rw [hg, hg'] at this <;> simp at this ⊢
        all_goals first | (rw [this]; done) | (rw [this]; rfl)
  · rw [hl]
    refine (h.m3.congr fun k _ => ?_).mono (Nat.le_refl _)
    show (if k = x.f.c then _ else f3 k) = _
    unfold holf
    rw [ho_iss I h0 hk]
    by_cases e : k = x.f.c
    · rw [if_pos e, if_pos e]; rfl
    · rw [if_neg e, if_neg e, h3 k e]; rfl
end
set_option maxHeartbeats 4000000 in
theorem add_any (L : List Le) (x : Le) (g b1 b2 b3 : Nat) (w : World) (h : LM w g L b1 b2 b3) (hV : V L) (hx : Le64 x) (h256 : L.length ≤ 256) :
    Calls Tryz.prog 72 #[.pointer (some ⟨g, 0, none⟩), lev x] w fun e w' => e = .returned (.int .i64 (nxt L x)) ∧ (nxt L x = 0 → LM w' g (L ++ [x]) b1 b2 b3) ∧ GL w w' g b1 b2 b3 := by
  have h1 := h.alloc (.cells #[.int .i64 x.k, .int .i64 x.f.i, .int .i64 x.f.c, .int .i64 x.f.g, .int .i64 x.f.t, .int .i64 x.f.r] 54)
  have hlt := h.lt.1
  have H1 := Lib.hid h1
  have HC := Lib.hid (check_any L x g b1 b2 b3 _ h1 hx h256)
  have HX := Mw.Bk.new w 54 #[.int .i64 x.k, .int .i64 x.f.i, .int .i64 x.f.c, .int .i64 x.f.g, .int .i64 x.f.t, .int .i64 x.f.r]
  by_cases hn : nxt L x = 0
  · have I := inv_of hV
    obtain ⟨hl256, htm, hcs⟩ := nxt_0 hn
    have HN := Lib.hid hn
    have hl1 : (L.length : Int) < 256 := by omega
    have hl0 : (0 : Int) ≤ L.length := by omega
    by_cases hk : x.k = 0
    · have HA := Lib.hid (⟨I, hn, hk⟩ : Inv L ∧ nxt L x = 0 ∧ x.k = 0)
      have k1 : (x.k == 1) = false := by rw [hk]; rfl
      by_cases hr : x.f.r = 0
      · have r0 : (x.f.r != 0) = false := by rw [hr]; rfl
        have HR := Lib.hid hr
        clear hn h h1 htm hcs hk I hr
        go_enter Tryz.func72, Tryz.ntmps72
        go_wp2_with fail
        refine HC.out.mono ?_
        rintro e w2 ⟨rfl, hb2⟩
        rw [HN.out]
        have h2 := H1.out.old hb2
        have hX := HX.old hb2
        have hlw := hX.lt
        obtain ⟨c0, c1, c2, c3, c4⟩ := h2.at
        have x0 := hX.cell 0
        have x1 := hX.cell 1
        have x2 := hX.cell 2
        have x3 := hX.cell 3
        have x4 := hX.cell 4
        have x5 := hX.cell 5
        have hlg : g < w2.heap.size := by omega
        have z0 := h2.blk.frozen 0
        have z1 := h2.blk.frozen 1
        have hlt2 := h2.lt
        have nC0 : w2.heap.size ≠ g := by omega
        have nC1 : w2.heap.size ≠ b1 := by omega
        have nC2 : w2.heap.size ≠ b2 := by omega
        have nC3 : w2.heap.size ≠ b3 := by omega
        go_wp2_with fail
        have hL := ((h2.lg.size ((L.length : Int) + 1)).time x.f.t).alloc (.cells #[.int .i64 x.f.i, .int .i64 x.f.c, .int .i64 x.f.g, .int .i64 x.f.t, .int .i64 x.f.r] 46)
        have hC : Bk (((w2.setCell ⟨g, 0, none⟩ (.int .i64 ((L.length : Int) + 1))).setCell ⟨g, 1, none⟩ (.int .i64 x.f.t)).alloc (.cells #[.int .i64 x.f.i, .int .i64 x.f.c, .int .i64 x.f.g, .int .i64 x.f.t, .int .i64 x.f.r] 46)) w2.heap.size 46 #[.int .i64 x.f.i, .int .i64 x.f.c, .int .i64 x.f.g, .int .i64 x.f.t, .int .i64 x.f.r] := Mw.Bk.new' (by simp)
        have hG : GL w (((w2.setCell ⟨g, 0, none⟩ (.int .i64 ((L.length : Int) + 1))).setCell ⟨g, 1, none⟩ (.int .i64 x.f.t)).alloc (.cells #[.int .i64 x.f.i, .int .i64 x.f.c, .int .i64 x.f.g, .int .i64 x.f.t, .int .i64 x.f.r] 46)) g b1 b2 b3 := (((((GL.alloc (GL.refl w) _).bl hb2).set 0 _).set 1 _).alloc _)
        clear c0 c1 c2 c3 c4 x0 x1 x2 x3 x4 x5 z0 z1 hb2 h2 hX
        generalize (((w2.setCell ⟨g, 0, none⟩ (.int .i64 ((L.length : Int) + 1))).setCell ⟨g, 1, none⟩ (.int .i64 x.f.t)).alloc (.cells #[.int .i64 x.f.i, .int .i64 x.f.c, .int .i64 x.f.g, .int .i64 x.f.t, .int .i64 x.f.r] 46)) = wa at hL hC hG ⊢
        obtain ⟨c0, c1, c2, c3, c4⟩ := hL.at
        have d0 := hC.cell 0
        have d1 := hC.cell 1
        have d2 := hC.cell 2
        have d3 := hC.cell 3
        have d4 := hC.cell 4
        have q0 := hL.lt.1
        have q1 := hC.lt
        go_wp2_with fail
        refine Qt.region_ext_tail 8 (by kernel_rfl) (by kernel_rfl) ?_; simp only [List.take_succ_cons, List.take_zero, List.drop_succ_cons, List.drop_zero]; (repeat (first | go_big_quiet_step (fail) | quiet_step (fail))); refine wpQuiet_nil ?_
        intro w20 hb20
        have h20 := hL.old hb20
        have hC20 := hC.old hb20
        have hG20 := hG.bl hb20
        clear c0 c1 c2 c3 c4 d0 d1 d2 d3 d4 q0 q1
        clear hL hC hG hb20
        obtain ⟨w21, hp21, hL, hg21⟩ := h20.put1 (by simp only [maxLen]; omega) hx.2.1 hx.2.2.1
        have hC := hC20.kept hg21 nC1
        have hG := hG20.gb hg21 (.inr (.inl rfl))
        clear h20 hC20 hG20 hg21
        obtain ⟨c0, c1, c2, c3, c4⟩ := hL.at
        have d0 := hC.cell 0
        have d1 := hC.cell 1
        have d2 := hC.cell 2
        have d3 := hC.cell 3
        have d4 := hC.cell 4
        have q0 := hL.lt.1
        have q1 := hC.lt
        go_wp2_with fail
        clear hp21
        refine Qt.region_ext_tail 7 (by kernel_rfl) (by kernel_rfl) ?_; simp only [List.take_succ_cons, List.take_zero, List.drop_succ_cons, List.drop_zero]; (repeat (first | go_big_quiet_step (fail) | quiet_step (fail))); refine wpQuiet_nil ?_
        intro w22 hb22
        have h22 := hL.old hb22
        have hC22 := hC.old hb22
        have hG22 := hG.bl hb22
        clear c0 c1 c2 c3 c4 d0 d1 d2 d3 d4 q0 q1
        clear hL hC hG hb22
        obtain ⟨w23, hp23, hL, hg23⟩ := h22.put2 (by simp only [maxLen]; omega) hx.2.1 x.f
        have hC := hC22.kept hg23 nC2
        have hG := hG22.gb hg23 (.inr (.inr (.inl rfl)))
        clear h22 hC22 hG22 hg23
        obtain ⟨c0, c1, c2, c3, c4⟩ := hL.at
        have d0 := hC.cell 0
        have d1 := hC.cell 1
        have d2 := hC.cell 2
        have d3 := hC.cell 3
        have d4 := hC.cell 4
        have q0 := hL.lt.1
        have q1 := hC.lt
        go_wp2_with fail
        clear hp23
        refine Qt.region_ext_tail 6 (by kernel_rfl) (by kernel_rfl) ?_; simp only [List.take_succ_cons, List.take_zero, List.drop_succ_cons, List.drop_zero]; (repeat (first | go_big_quiet_step (fail) | quiet_step (fail))); refine wpQuiet_nil ?_
        intro w24 hb24
        have h24 := hL.old hb24
        have hC24 := hC.old hb24
        have hG24 := hG.bl hb24
        clear c0 c1 c2 c3 c4 d0 d1 d2 d3 d4 q0 q1
        clear hL hC hG hb24
        obtain ⟨w25, hp25, hL, hg25⟩ := h24.put3 (by simp only [maxLen]; omega) hx.2.2.1
        have hC := hC24.kept hg25 nC3
        have hG := hG24.gb hg25 (.inr (.inr (.inr rfl)))
        clear h24 hC24 hG24 hg25
        go_wp2_with fail
        go_ret
        refine ⟨by rw [HN.out] <;> rfl, fun _ => lm_iss HA.out.1 HA.out.2.1 HA.out.2.2 (fun k hk => ?_) (fun k hk => rfl) hL, hG⟩
        rw [HR.out]
        split
        · rename_i e
          rw [e]; unfold curf; rw [fnd_0 HA.out.1]; simp
        · rfl
      · have r0 : (x.f.r != 0) = true := bne_iff_ne.2 hr
        obtain ⟨_, _, _, _, hf5, _⟩ := iss_facts I hn hk
        obtain ⟨o, ho, hoc, hog⟩ := hf5 hr
        have HO := Lib.hid hoc
        have hvo := I.val _ _ ho
        have hoc64 : I64 o.c := by unfold vld at hvo; have := of_decide_eq_true hvo; unfold I64; omega
        have hown : ownf L x.f.r = some (.int .i64 o.c) := by unfold ownf; rw [ho]; rfl
        clear hn h h1 htm hcs hk I hr hvo ho hoc hog
        go_enter Tryz.func72, Tryz.ntmps72
        go_wp2_with fail
        refine HC.out.mono ?_
        rintro e w2 ⟨rfl, hb2⟩
        rw [HN.out]
        have h2 := H1.out.old hb2
        have hX := HX.old hb2
        have hlw := hX.lt
        obtain ⟨c0, c1, c2, c3, c4⟩ := h2.at
        have x0 := hX.cell 0
        have x1 := hX.cell 1
        have x2 := hX.cell 2
        have x3 := hX.cell 3
        have x4 := hX.cell 4
        have x5 := hX.cell 5
        have hlg : g < w2.heap.size := by omega
        have z0 := h2.blk.frozen 0
        have z1 := h2.blk.frozen 1
        have hlt2 := h2.lt
        have nC0 : w2.heap.size ≠ g := by omega
        have nC1 : w2.heap.size ≠ b1 := by omega
        have nC2 : w2.heap.size ≠ b2 := by omega
        have nC3 : w2.heap.size ≠ b3 := by omega
        go_wp2_with fail
        have hL := ((h2.lg.size ((L.length : Int) + 1)).time x.f.t).alloc (.cells #[.int .i64 x.f.i, .int .i64 x.f.c, .int .i64 x.f.g, .int .i64 x.f.t, .int .i64 x.f.r] 46)
        have hC : Bk (((w2.setCell ⟨g, 0, none⟩ (.int .i64 ((L.length : Int) + 1))).setCell ⟨g, 1, none⟩ (.int .i64 x.f.t)).alloc (.cells #[.int .i64 x.f.i, .int .i64 x.f.c, .int .i64 x.f.g, .int .i64 x.f.t, .int .i64 x.f.r] 46)) w2.heap.size 46 #[.int .i64 x.f.i, .int .i64 x.f.c, .int .i64 x.f.g, .int .i64 x.f.t, .int .i64 x.f.r] := Mw.Bk.new' (by simp)
        have hG : GL w (((w2.setCell ⟨g, 0, none⟩ (.int .i64 ((L.length : Int) + 1))).setCell ⟨g, 1, none⟩ (.int .i64 x.f.t)).alloc (.cells #[.int .i64 x.f.i, .int .i64 x.f.c, .int .i64 x.f.g, .int .i64 x.f.t, .int .i64 x.f.r] 46)) g b1 b2 b3 := (((((GL.alloc (GL.refl w) _).bl hb2).set 0 _).set 1 _).alloc _)
        clear c0 c1 c2 c3 c4 x0 x1 x2 x3 x4 x5 z0 z1 hb2 h2 hX
        generalize (((w2.setCell ⟨g, 0, none⟩ (.int .i64 ((L.length : Int) + 1))).setCell ⟨g, 1, none⟩ (.int .i64 x.f.t)).alloc (.cells #[.int .i64 x.f.i, .int .i64 x.f.c, .int .i64 x.f.g, .int .i64 x.f.t, .int .i64 x.f.r] 46)) = wa at hL hC hG ⊢
        have hl8 := hL.lt
        refine (drop_any g b1 b2 b3 _ _ _ _ _ x.f.r o.c _ _ _ _ hL hx.2.2.2.2.2 hoc64 hown).mono ?_
        rintro e w3 ⟨rfl, h3, hg3⟩
        replace hC := hg3.bk hC nC0 nC1 nC2 nC3
        replace hG := hG.trans hg3
        clear hL hg3 hown hl8
        have hL := h3
        clear h3
        obtain ⟨c0, c1, c2, c3, c4⟩ := hL.at
        have d0 := hC.cell 0
        have d1 := hC.cell 1
        have d2 := hC.cell 2
        have d3 := hC.cell 3
        have d4 := hC.cell 4
        have q0 := hL.lt.1
        have q1 := hC.lt
        go_wp2_with fail
        refine Qt.region_ext_tail 8 (by kernel_rfl) (by kernel_rfl) ?_; simp only [List.take_succ_cons, List.take_zero, List.drop_succ_cons, List.drop_zero]; (repeat (first | go_big_quiet_step (fail) | quiet_step (fail))); refine wpQuiet_nil ?_
        intro w20 hb20
        have h20 := hL.old hb20
        have hC20 := hC.old hb20
        have hG20 := hG.bl hb20
        clear c0 c1 c2 c3 c4 d0 d1 d2 d3 d4 q0 q1
        clear hL hC hG hb20
        obtain ⟨w21, hp21, hL, hg21⟩ := h20.put1 (by simp only [maxLen]; omega) hx.2.1 hx.2.2.1
        have hC := hC20.kept hg21 nC1
        have hG := hG20.gb hg21 (.inr (.inl rfl))
        clear h20 hC20 hG20 hg21
        obtain ⟨c0, c1, c2, c3, c4⟩ := hL.at
        have d0 := hC.cell 0
        have d1 := hC.cell 1
        have d2 := hC.cell 2
        have d3 := hC.cell 3
        have d4 := hC.cell 4
        have q0 := hL.lt.1
        have q1 := hC.lt
        go_wp2_with fail
        clear hp21
        refine Qt.region_ext_tail 7 (by kernel_rfl) (by kernel_rfl) ?_; simp only [List.take_succ_cons, List.take_zero, List.drop_succ_cons, List.drop_zero]; (repeat (first | go_big_quiet_step (fail) | quiet_step (fail))); refine wpQuiet_nil ?_
        intro w22 hb22
        have h22 := hL.old hb22
        have hC22 := hC.old hb22
        have hG22 := hG.bl hb22
        clear c0 c1 c2 c3 c4 d0 d1 d2 d3 d4 q0 q1
        clear hL hC hG hb22
        obtain ⟨w23, hp23, hL, hg23⟩ := h22.put2 (by simp only [maxLen]; omega) hx.2.1 x.f
        have hC := hC22.kept hg23 nC2
        have hG := hG22.gb hg23 (.inr (.inr (.inl rfl)))
        clear h22 hC22 hG22 hg23
        obtain ⟨c0, c1, c2, c3, c4⟩ := hL.at
        have d0 := hC.cell 0
        have d1 := hC.cell 1
        have d2 := hC.cell 2
        have d3 := hC.cell 3
        have d4 := hC.cell 4
        have q0 := hL.lt.1
        have q1 := hC.lt
        go_wp2_with fail
        clear hp23
        refine Qt.region_ext_tail 6 (by kernel_rfl) (by kernel_rfl) ?_; simp only [List.take_succ_cons, List.take_zero, List.drop_succ_cons, List.drop_zero]; (repeat (first | go_big_quiet_step (fail) | quiet_step (fail))); refine wpQuiet_nil ?_
        intro w24 hb24
        have h24 := hL.old hb24
        have hC24 := hC.old hb24
        have hG24 := hG.bl hb24
        clear c0 c1 c2 c3 c4 d0 d1 d2 d3 d4 q0 q1
        clear hL hC hG hb24
        obtain ⟨w25, hp25, hL, hg25⟩ := h24.put3 (by simp only [maxLen]; omega) hx.2.2.1
        have hC := hC24.kept hg25 nC3
        have hG := hG24.gb hg25 (.inr (.inr (.inr rfl)))
        clear h24 hC24 hG24 hg25
        go_wp2_with fail
        go_ret
        exact ⟨by rw [HN.out] <;> rfl, fun _ => lm_iss HA.out.1 HA.out.2.1 HA.out.2.2 (fun k hk => rfl) (fun k hk => if_neg (fun e => hk (e.trans HO.out))) hL, hG⟩
    · obtain ⟨hk1, hrv, o, ho, hg⟩ := rev_facts hn hk
      have k1 : (x.k == 1) = true := by rw [hk1]; rfl
      have HA := Lib.hid (⟨I, hn, hk, ho⟩ : Inv L ∧ nxt L x = 0 ∧ x.k ≠ 0 ∧ fnd L x.f.i = some o)
      have hvo := I.val _ _ ho
      have hoc : I64 o.c := by unfold vld at hvo; have := of_decide_eq_true hvo; unfold I64; omega
      have hown : ownf L x.f.i = some (.int .i64 o.c) := by unfold ownf; rw [ho]; rfl
      clear hn h h1 htm hcs hk hk1 hrv hg hvo ho I
      go_enter Tryz.func72, Tryz.ntmps72
      go_wp2_with fail
      refine HC.out.mono ?_
      rintro e w2 ⟨rfl, hb2⟩
      rw [HN.out]
      have h2 := H1.out.old hb2
      have hX := HX.old hb2
      have hlw := hX.lt
      obtain ⟨c0, c1, c2, c3, c4⟩ := h2.at
      have x0 := hX.cell 0
      have x1 := hX.cell 1
      have x2 := hX.cell 2
      have x3 := hX.cell 3
      have x4 := hX.cell 4
      have x5 := hX.cell 5
      have hlg : g < w2.heap.size := by omega
      have z0 := h2.blk.frozen 0
      have z1 := h2.blk.frozen 1
      go_wp2_with fail
      refine (drop_any g b1 b2 b3 _ _ _ ((L.length : Int) + 1) x.f.t x.f.i o.c _ _ _ _ (((h2.lg.size _).time _).alloc _) hx.2.1 hoc hown).mono ?_
      rintro e w3 ⟨rfl, h3, hg3⟩
      go_wp2_with fail
      go_ret
      exact ⟨by rw [HN.out] <;> rfl, fun _ => lm_rev HA.out.1 HA.out.2.1 HA.out.2.2.1 HA.out.2.2.2 h3, (((((GL.alloc (GL.refl w) _).bl hb2).set 0 _).set 1 _).alloc _).trans hg3⟩
  · have e0 : (nxt L x != 0) = true := bne_iff_ne.2 hn
    have HN := Lib.hid hn
    clear hn h h1 H1 HX
    go_enter Tryz.func72, Tryz.ntmps72
    go_wp2_with fail
    refine HC.out.mono ?_
    rintro e w2 ⟨rfl, hb2⟩
    go_wp2_with fail
    go_ret
    exact ⟨rfl, fun h => absurd h HN.out, (GL.alloc (GL.refl w) _).bl hb2⟩
end Go.Proofs.YtdikoffppjoomaaGreat.Ct
