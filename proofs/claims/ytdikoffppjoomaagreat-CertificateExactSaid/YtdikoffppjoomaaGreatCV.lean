/- Walks: the reference: Check, Append, SameLog. -/
import Derived.Test.YtdikoffppjoomaaGreatCU
import Derived.Test.YtdikoffppjoomaaGreatMem
import Derived.WalkKit
import Derived.WalkSpells
import Derived.WalkLawsBesides
import Derived.Deep.QuietTactic
import Derived.BigQuiet
import Derived.Deep.Draws
import Derived.Deep.AppendLies
import Derived.Laws.OwnMore
import Derived.Laws.BytesArg
import Derived.Lib.Hide
import Derived.Deep.LoopGhost
import Derived.Deep.RegionLaw
import Derived.Lib.SmallJoins
namespace Go.Proofs.YtdikoffppjoomaaGreat.Ct
open Go.RowKit Go.Proofs.YtdikoffppjoomaaGreat.Dg
open Go.Proofs.YtdikoffppjoomaaGreat.Mw (I64 ret_int ret_bool Bk bl_trans own_ints RdI RdR ge ge_lt gi ge_mem own_rows)
set_option linter.unusedVariables false
set_option linter.unusedSimpArgs false
set_option maxRecDepth 100000

theorem rdr_take {α : Type} [Inhabited α] {k : Nat} {enc : α → List Value} {w : World} {A : Option Addr} {l : List α} (h : RdR k enc w A l) (n : Nat) : RdR k enc w A (l.take n) := fun i hi => by
  have hi' : i < n ∧ i < l.length := by simp at hi; omega
  obtain ⟨b, off, e, hlt, hc⟩ := h i hi'.2
  have e2 : ge (l.take n) i = ge l i := by unfold Mw.ge; simp [List.getElem?_take, hi'.1]
  exact ⟨b, off, e, hlt, by rw [e2]; exact hc⟩
set_option maxHeartbeats 2000000 in
theorem rcheck_any (l : List Le) (A : Option Addr) (c : Nat) (w : World) (hr : RdL w A l) (hlc : l.length ≤ c) : Calls Tryz.prog 25 #[.slice A l.length c] w fun e w' => e = .returned (.int .i64 (chk l)) ∧ Below w.heap.size w w' := by
  by_cases h256 : 256 < l.length
  · have h1 : (256 : Int) < l.length := by omega
    have H : Hid (chk l = 3) := if_pos h256
    clear hr h256
    go_enter Tryz.func25, Tryz.ntmps25
    go_wp2_with fail
    go_ret
    exact ⟨by rw [H.out] <;> rfl, Below.refl _ _⟩
  · have h1 : ¬ (256 : Int) < l.length := by omega
    have H : Hid (chk l = chN l l.length) := if_neg h256
    have HR := Lib.hid hr
    have hm : l.length ≤ maxLen := by simp only [maxLen]; omega
    have HM := Lib.hid hm
    clear hr hm
    go_enter Tryz.func25, Tryz.ntmps25
    go_wp2_with fail
    go_loopw [3] (fun i wr => ∃ k : Nat, k ≤ l.length ∧ i = .int .i64 k ∧ chN l k = 0 ∧ Below w.heap.size w wr) (fun i _ => l.length - (RowKit.intOf i).toNat)
    case atStart => exact ⟨0, by omega, rfl, rfl, Below.refl _ _⟩
    case round =>
      obtain ⟨k, hk, rfl, hc, hb⟩ := hrel
      by_cases hlt : k < l.length
      · have hrk := HR.out.old hb
        obtain ⟨b, off, rfl, hbl, c0, c1, c2, c3, c4, c5⟩ := le_at hrk k hlt
        have hs : chN l (k + 1) = nxt (l.take k) (gE l k) := by rw [chN_succ, if_pos hc]
        have HS : Hid (chN l (k + 1) = nxt (l.take k) (ge l k)) := hs
        have hlk : (l.take k).length = k := by simp; omega
        have R1 : Mm.RC 70 #[.slice (some ⟨b, off, none⟩) k c, lev (ge l k)] wr (.int .i64 (nxt (l.take k) (ge l k))) := Mm.RC.of fun W hbW => by
          have h := rnext_any (l.take k) (ge l k) (some ⟨b, off, none⟩) c W (rdr_take (hrk.old hbW) k) (by rw [hlk]; exact Nat.le_trans hk HM.out)
          rw [hlk] at h
          exact h
        have u1 : (k : Int) < l.length := by omega
        have u2 : (k : Int) ≤ (c : Int) := by omega
        have u3 : (0 : Int) ≤ (k : Int) := by omega
        have u4 : k ≤ c := by omega
        have HC := Lib.hid hc
        clear hs hlk hc hrk
        generalize nxt (l.take k) (ge l k) = nx at R1 HS
        go_wp2_with fail
        refine Mm.region_ext (by kernel_rfl) (by kernel_rfl) ?_; (repeat (first | go_big_quiet_step ((exact Mm.RC.call (by with_reducible assumption) _)) | quiet_step ((exact Mm.RC.call (by with_reducible assumption) _)))); refine wpQuiet_nil ?_
        intro w2 hb2
        have hb3 := bl_trans hb hb2
        clear hb hb2 R1 c0 c1 c2 c3 c4 c5 hbl
        by_cases hz : nx = 0
        · have z0 : (nx != 0) = false := by rw [hz]; rfl
          have HC2 : Hid (chN l (k + 1) = 0) := HS.out.trans hz
          clear hz HS
          go_wp2_with fail
          go_roundw
          case rel => exact ⟨k + 1, by omega, by go_num, HC2.out, hb3⟩
          case measure => simp [RowKit.intOf]; omega
        · have z0 : (nx != 0) = true := bne_iff_ne.2 hz
          have HK : Hid (chk l = nx) := by
            unfold Hid
            rw [H.out, ← HS.out]
            exact chN_stick (by omega) (by rw [HS.out]; exact hz)
          clear hz HS
          go_wp2_with fail
          go_ret
          exact ⟨by rw [HK.out] <;> rfl, hb3⟩
      · have hkl : k = l.length := by omega
        have HK : Hid (chk l = 0) := by unfold Hid; rw [H.out, ← hkl]; exact hc
        clear hkl hc
        go_wp2_with fail
        go_ret
        exact ⟨by rw [HK.out] <;> rfl, hb⟩
theorem step_append_run {P : Program} {ops : Array Oper} {o : Oper} {a : Act} {w : World} {K : Act → World → Prop} {Q : Exit → Act → World → Prop} {E : Prop} (hgd : o.guard = none) (s x : Operand) (t : TypeId)
    (ho : o.op = .call { callee := .builtin .append, args := #[s, x], argTypes := #[t, t] }) (v u : Value) (hs : a.eval s = v) (hx : a.eval x = u)
    (h : ∃ v' w', (Builtin.append_ #[t, t] o.type #[v, u]).run P w = .ok v' w' ∧ K (a.put o.dst v') w') : if Region.wanted o (yielded ops a.tmps) = true then Oper.wp P o a w K Q else E := by
  have hw : Region.wanted o (yielded ops a.tmps) = true := by simp [Region.wanted, hgd]
  rw [if_pos hw]
  obtain ⟨v', w', hrun, hk⟩ := h
  unfold Oper.wp execOp
  simp only [ho, resolve, invoke, builtin, Sem.run_bind, Sem.run_pure, Result.andThen_ok, List.map_toArray, List.map_cons, List.map_nil, hs, hx, hrun]
  exact hk
theorem own_nilL {w : World} {b : Nat} {T : TypeId} {v : Value} {l : List Le} (h : w.ownsRow b T 6 v ([] ++ l).length (([] ++ l).flatMap lel)) : w.ownsRow b T 6 v l.length (l.flatMap lel) := h
theorem gbD1 {w w' : World} (h : w.drew.grownBy w' (Value.slice none 0 0).ownBlock) : Below w.heap.size w w' := ⟨h.os, h.tape, h.output, h.size, fun k hk => h.block k hk (by simp [Value.ownBlock])⟩
theorem gbD2 {w w' : World} {o : Obj} (h : (w.alloc o).drew.grownBy w' (Value.slice none 0 0).ownBlock) : Below w.heap.size w w' :=
  ((Below.refl _ w).alloc (Nat.le_refl _) o).trans ⟨h.os, h.tape, h.output, h.size, fun k hk => h.block k (by show k < (w.alloc o).heap.size; simp; omega) (by simp [Value.ownBlock])⟩
set_option maxHeartbeats 8000000 in
theorem rappend_any (l : List Le) (x : Le) (A : Option Addr) (c : Nat) (w : World) (hr : RdL w A l) (hlc : l.length ≤ c) : Calls Tryz.prog 29 #[.slice A l.length c, lev x] w (AE (apn l x) w) := by
  have hr1 := hr.alloc (.cells #[.int .i64 x.k, .int .i64 x.f.i, .int .i64 x.f.c, .int .i64 x.f.g, .int .i64 x.f.t, .int .i64 x.f.r] 54)
  have HR := Lib.hid (rcheck_any l A c _ hr1 hlc)
  have HX := Mw.Bk.new w 54 #[.int .i64 x.k, .int .i64 x.f.i, .int .i64 x.f.c, .int .i64 x.f.g, .int .i64 x.f.t, .int .i64 x.f.r]
  have HR1 := Lib.hid hr1
  have hb0 : Below w.heap.size w (w.alloc (.cells #[.int .i64 x.k, .int .i64 x.f.i, .int .i64 x.f.c, .int .i64 x.f.g, .int .i64 x.f.t, .int .i64 x.f.r] 54)) := by (repeat (first | with_reducible exact Below.refl _ _ | with_reducible refine bl_drewN ?_ _ | with_reducible refine Below.drew ?_ | with_reducible refine bl_alloc ?_ _ | with_reducible refine Below.alloc ?_ (by first | omega | (simp; done) | (simp; omega)) _ | with_reducible refine Below.setCell ?_ (by first | omega | (simp; done) | (simp; omega)) _ | with_reducible assumption))
  clear hr hr1
  by_cases hz : chk l = 0
  · have z0 : (chk l != 0) = false := by rw [hz]; rfl
    have HZ := Lib.hid hz
    have hle := (inv_of (V_chk hz)).len
    clear hz
    go_enter Tryz.func29, Tryz.ntmps29
    go_wp2_with fail
    refine HR.out.mono ?_
    rintro e w2 ⟨rfl, hb⟩
    have hX2 := HX.old hb
    have hr2 := HR1.out.old hb
    have hb2 := bl_trans hb0 hb
    have x0 := hX2.cell 0
    have x1 := hX2.cell 1
    have x2 := hX2.cell 2
    have x3 := hX2.cell 3
    have x4 := hX2.cell 4
    have x5 := hX2.cell 5
    have l1 := hX2.lt
    have HRN := Lib.hid (rnext_any l x A c w2 hr2 (by simp only [maxLen]; omega))
    clear hb hb0 HX HR
    go_wp2_with fail
    refine HRN.out.mono ?_
    rintro e w3 ⟨rfl, hb3⟩
    have hX3 := hX2.old hb3
    have hr3 := hr2.old hb3
    have hb5 := bl_trans hb2 hb3
    clear x0 x1 x2 x3 x4 x5 l1 hX2 hr2 hb2 hb3 HRN
    have x0 := hX3.cell 0
    have x1 := hX3.cell 1
    have x2 := hX3.cell 2
    have x3 := hX3.cell 3
    have x4 := hX3.cell 4
    have x5 := hX3.cell 5
    have l1 := hX3.lt
    by_cases hn : nxt l x = 0
    · have z1 : (nxt l x != 0) = false := by rw [hn]; rfl
      have HA : Hid (apn l x = (l ++ [x], 0)) := by unfold Hid apn; rw [if_pos HZ.out, if_pos hn]
      obtain ⟨i0, hi0, hz0, hz1, hz2⟩ := info_parts infoEntry
      have HR3 := Lib.hid hr3
      clear hn hr3
      go_wp2_with fail
      go_region_law (first
        | (refine step_append_run (by rfl) (.const (.slice none 0 0)) (.tmp 19) 27 (by rfl) (.slice none 0 0) (.slice A l.length c) (by rfl) (by rfl) ?_
           obtain ⟨vC, w4, hrun1, hC2, hg1⟩ := appEntry (w := w3.drew) (base := w3.heap.size) (v := .slice none 0 0) (xs := []) (l := l) (c := c) (World.ownsRow_nil _ _ _ _) HR3.out.drew (by simp; omega) (Nat.le_refl _)
           refine ⟨vC, w4, hrun1, ?_⟩
           replace hC2 := own_nilL hC2
           have hbD := gbD1 hg1
           have hX4 := hX3.below hbD l1
           have y0 := hX4.cell 0
           have y1 := hX4.cell 1
           have y2 := hX4.cell 2
           have y3 := hX4.cell 3
           have y4 := hX4.cell 4
           have y5 := hX4.cell 5
           have yl := hX4.lt)
        | (refine step_append_run (by rfl) (.const (.slice none 0 0)) (.tmp 19) 27 (by rfl) (.slice none 0 0) (.slice A l.length c) (by rfl) (by rfl) ?_
           obtain ⟨vC, w4, hrun1, hC2, hg1⟩ := appEntry (w := (w3.alloc (.cells #[.int .i64 x.k, .int .i64 x.f.i, .int .i64 x.f.c, .int .i64 x.f.g, .int .i64 x.f.t, .int .i64 x.f.r] 54)).drew) (base := w3.heap.size) (v := .slice none 0 0) (xs := []) (l := l) (c := c) (World.ownsRow_nil _ _ _ _) (HR3.out.alloc _).drew (by simp; omega) (by simp)
           refine ⟨vC, w4, hrun1, ?_⟩
           replace hC2 := own_nilL hC2
           have hbD := gbD2 hg1
           have hX4 := hX3.below hbD l1
           have y0 := hX4.cell 0
           have y1 := hX4.cell 1
           have y2 := hX4.cell 2
           have y3 := hX4.cell 3
           have y4 := hX4.cell 4
           have y5 := hX4.cell 5
           have yl := hX4.lt)
        | (refine step_append_lies _ (by rfl) (.tmp 20) (.tmp 22) 27 (by rfl) w3.heap.size 54 i0 (lev ⟨0, ⟨0, 0, 0, 0, 0⟩⟩) 6 48 Tryz.underlying27 hi0 hz0 hz1 hz2 rfl (by decide) vC l.length (l.flatMap lel) (by rfl) (by first | exact hC2 | exact World.ownsRow.alloc hC2 _) _ 1 1 (lel x) (by rfl) rfl (by first | exact blk_newsE x (Mw.Bk.new' rfl) | exact blk_newsE x (Mw.Bk.grown (Mw.Bk.new _ _ _).drew hg1 (by simp [Value.ownBlock]))) (lel_one x) (by decide) (by simp only [maxLen]; omega) (by omega) (by have := hbD.size; first | exact this | (simp; omega)) _ rfl ?_
           intro g5 cap5 w5 hown5 hgrow5 hat5 hlt5
           have hb6 : Below w3.heap.size w3 w5 := Below.grown (by first | exact hbD | exact hbD.alloc hbD.size _) hgrow5 (by have := hbD.size; first | exact this | (simp; omega)) (fun j hj => (hC2.lt j hj).1)))
      all_goals
        have hown6 : w5.ownsRow w3.heap.size 54 6 (.slice (some ⟨g5, 0, none⟩) (l.length + 1) cap5) (l ++ [x]).length ((l ++ [x]).flatMap lel) := by simpa using hown5
        obtain ⟨A6, c6, he, hc6, hr6, ha6⟩ := own_rows lel_len (by omega) hown6
        clear hown5 hown6 hgrow5
        go_wp2_with fail
        go_ret2
        rw [HA.out]
        exact ⟨A6, c6, by rw [← he] <;> rfl, hc6, hr6, fun a ha => ⟨Nat.le_trans hb5.size (ha6 a ha).1, (ha6 a ha).2⟩, bl_trans hb5 hb6⟩
    · have z1 : (nxt l x != 0) = true := bne_iff_ne.2 hn
      have HA : Hid (apn l x = ([], nxt l x)) := by unfold Hid apn; rw [if_pos HZ.out, if_neg hn]
      clear hn hr3
      go_wp2_with fail
      go_ret2
      exact ae_nil _ hb5 HA.out
  · have z0 : (chk l != 0) = true := bne_iff_ne.2 hz
    have HA : Hid (apn l x = ([], chk l)) := if_neg hz
    clear hz
    go_enter Tryz.func29, Tryz.ntmps29
    go_wp2_with fail
    refine HR.out.mono ?_
    rintro e w2 ⟨rfl, hb⟩
    go_wp2_with fail
    go_ret2
    exact ae_nil _ (bl_trans hb0 hb) HA.out
set_option maxHeartbeats 1000000 in
theorem samelog_any (l : List Le) (A B : Option Addr) (c d : Nat) (w : World) (hA : RdL w A l) (hB : RdL w B l) (hl : l.length ≤ maxLen) : Calls Tryz.prog 30 #[.slice A l.length c, .slice B l.length d] w fun e w' => e = .returned (.bool true) ∧ Below w.heap.size w w' := by
  have HA := Lib.hid hA
  have HB := Lib.hid hB
  simp only [maxLen] at hl
  clear hA hB
  go_enter Tryz.func30, Tryz.ntmps30
  go_wp2_with fail
  go_loopw [5] (fun i wr => ∃ k : Nat, k ≤ l.length ∧ i = .int .i64 k ∧ Below w.heap.size w wr) (fun i _ => l.length - (RowKit.intOf i).toNat)
  case atStart => exact ⟨0, by omega, rfl, Below.refl _ _⟩
  case round =>
    obtain ⟨k, hk, rfl, hb⟩ := hrel
    by_cases hlt : k < l.length
    · obtain ⟨b, off, rfl, hbl, c0, c1, c2, c3, c4, c5⟩ := le_at (HA.out.old hb) k hlt
      obtain ⟨b', off', rfl, hbl', d0, d1, d2, d3, d4, d5⟩ := le_at (HB.out.old hb) k hlt
      have hlt' : (k : Int) < l.length := by omega
      go_wp2_with fail
      refine Mm.region_ext (by kernel_rfl) (by kernel_rfl) ?_; (repeat (first | go_big_quiet_step (fail) | quiet_step (fail))); refine wpQuiet_nil ?_
      intro w2 hb2
      have hb3 := bl_trans hb hb2
      go_wp2_with fail
      go_roundw
      case rel => exact ⟨k + 1, by omega, by go_num, hb3⟩
      case measure => simp [RowKit.intOf]; omega
    · go_wp2_with fail
      go_ret
      exact ⟨rfl, hb⟩
end Go.Proofs.YtdikoffppjoomaaGreat.Ct
