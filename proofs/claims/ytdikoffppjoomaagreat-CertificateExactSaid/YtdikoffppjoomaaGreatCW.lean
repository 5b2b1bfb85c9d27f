/- Walk: the reference: Current. -/
import Derived.Test.YtdikoffppjoomaaGreatCV
import Derived.Test.YtdikoffppjoomaaGreatMem
import Derived.WalkKit
import Derived.WalkSpells
import Derived.WalkLawsBesides
import Derived.Deep.QuietTactic
import Derived.BigQuiet
import Derived.Deep.Draws
import Derived.Deep.AppendLies
import Derived.Laws.OwnMore
import Derived.Laws.BytesArg
import Derived.Lib.Hide
import Derived.Deep.LoopGhost
import Derived.Lib.SmallJoins
import Derived.Laws.CopyRow
import Derived.Laws.CopyOwn
import Derived.Laws.Tables
namespace Go.Proofs.YtdikoffppjoomaaGreat.Ct
open Go.RowKit Go.Proofs.YtdikoffppjoomaaGreat.Dg
open Go.Proofs.YtdikoffppjoomaaGreat.Mw (I64 ret_int ret_bool Bk bl_trans own_ints RdI RdR ge ge_lt gi ge_mem own_rows wpList_append_run)
set_option linter.unusedVariables false
set_option linter.unusedSimpArgs false
set_option maxRecDepth 100000

/-- Copying certificates inside or between rows. -/
theorem run_copy5 (w : World) (ty : TypeId) (g o dLen dCap : Nat) (a : Addr) (sLen sCap : Nat) (cur : Array Value) (t : TypeId) (cs : List Value)
    (hg : w.heap[g]? = some (.cells cur t (0, 0))) (hn : cs.length = Nat.min sLen dLen * 5)
    (hsrc : ∀ j v, cs[j]? = some v → w.cell? (a.add j) = some v) (hfit : o + cs.length ≤ cur.size) (h1 : ∀ v ∈ cs, v.oneCell' = true) :
    (Builtin.copy_ #[42, 42] ty #[.slice (some ⟨g, o, none⟩) dLen dCap, .slice (some a) sLen sCap]).run Tryz.prog w =
      .ok (goInt (Nat.min sLen dLen)) (w.setRow g (cur.toList.take o ++ cs ++ cur.toList.drop (o + cs.length)).toArray) := by
  have hl := run_loadCells_list (P := Tryz.prog) w a cs hsrc
  have hst := run_storeCells_at Tryz.prog g o t cs 0 cur w hg (by simpa using hfit) h1
  obtain ⟨i0, hi0, hz0, hz1, hz2⟩ := info_parts infoCert
  simp [Builtin.copy_, run_underlying Tryz.underlying42, Builtin.lenOf, Builtin.firstCells, sizeOf, typeInfo, hi0, hz1, ← hn, hl, hst]
theorem run_copy0 (w : World) (ty : TypeId) (dp sp : Option Addr) (dCap sLen sCap : Nat) :
    (Builtin.copy_ #[42, 42] ty #[.slice dp 0 dCap, .slice sp sLen sCap]).run Tryz.prog w = .ok (goInt 0) w := by
  obtain ⟨i0, hi0, hz0, hz1, hz2⟩ := info_parts infoCert
  rcases sp with _ | a
  · rcases dp with _ | d <;> simp [Builtin.copy_, run_underlying Tryz.underlying42, Builtin.lenOf, Builtin.firstCells, sizeOf, typeInfo, hi0, hz1, storeCells]
  · have hl := run_loadCells_list (P := Tryz.prog) w a [] (fun j v h => by simp at h)
    simp only [List.length_nil] at hl
    rcases dp with _ | d <;> simp [Builtin.copy_, run_underlying Tryz.underlying42, Builtin.lenOf, Builtin.firstCells, sizeOf, typeInfo, hi0, hz1, hl, storeCells]
theorem set5 (A Y : List Value) (x0 x1 x2 x3 x4 y0 y1 y2 y3 y4 : Value) : (((((A ++ ([x0, x1, x2, x3, x4] ++ Y)).set A.length y0).set (A.length + 1) y1).set (A.length + 2) y2).set (A.length + 3) y3).set (A.length + 4) y4 = A ++ ([y0, y1, y2, y3, y4] ++ Y) := by
  rw [List.set_append_right _ _ (Nat.le_refl _), List.set_append_right _ _ (Nat.le_add_right _ _), List.set_append_right _ _ (Nat.le_add_right _ _), List.set_append_right _ _ (Nat.le_add_right _ _), List.set_append_right _ _ (Nat.le_add_right _ _), Nat.sub_self, Nat.add_sub_cancel_left, Nat.add_sub_cancel_left, Nat.add_sub_cancel_left, Nat.add_sub_cancel_left]
  rfl
theorem len5 {X : List Value} (h : X.length = 5) : ∃ x0 x1 x2 x3 x4, X = [x0, x1, x2, x3, x4] := by
  match X, h with
  | [x0, x1, x2, x3, x4], _ => exact ⟨x0, x1, x2, x3, x4, rfl⟩
theorem flatc_len (l : List Cf) : (l.flatMap cfl).length = l.length * 5 := Mw.flat_len cfl_len l
/-- A row in which the place of a certificate is free: the certificate is stored. -/
theorem ins_sets {w : World} {base g cap k : Nat} {xs : List Cf} {c : Cf} {X tail : List Value} (hg : w.heap[g]? = some (.cells ((xs.take k).flatMap cfl ++ (X ++ ((xs.drop k).flatMap cfl ++ tail))).toArray 46 (0, 0))) (hX : X.length = 5) (hk : k ≤ xs.length)
    (hsz : ((xs.take k).flatMap cfl ++ (X ++ ((xs.drop k).flatMap cfl ++ tail))).length = cap * 5) (hb : base ≤ g) (h1 : xs.length + 1 ≤ cap) (h2 : cap ≤ maxLen) :
    (((((w.setCell ⟨g, k * 5, none⟩ (.int .i64 c.i)).setCell ⟨g, k * 5 + 1, none⟩ (.int .i64 c.c)).setCell ⟨g, k * 5 + 2, none⟩ (.int .i64 c.g)).setCell ⟨g, k * 5 + 3, none⟩ (.int .i64 c.t)).setCell ⟨g, k * 5 + 4, none⟩ (.int .i64 c.r)).ownsRow base 46 5 (.slice (some ⟨g, 0, none⟩) (xs.length + 1) cap) (xs.take k ++ c :: xs.drop k).length ((xs.take k ++ c :: xs.drop k).flatMap cfl) := by
  have hA : ((xs.take k).flatMap cfl).length = k * 5 := by rw [flatc_len]; simp; omega
  have hlen : (xs.take k ++ c :: xs.drop k).length = xs.length + 1 := by simp; omega
  obtain ⟨x0, x1, x2, x3, x4, rfl⟩ := len5 hX
  have h0 : Bk w g 46 _ := hg
  have h5 := ((((h0.set (k * 5) (.int .i64 c.i)).set (k * 5 + 1) (.int .i64 c.c)).set (k * 5 + 2) (.int .i64 c.g)).set (k * 5 + 3) (.int .i64 c.t)).set (k * 5 + 4) (.int .i64 c.r)
  simp only [List.setIfInBounds_toArray] at h5
  rw [← hA, set5] at h5
  rw [← hA]
  refine ⟨by rw [flatc_len], .inr ⟨g, cap, _, by rw [hlen], hb, h5, by rw [hlen]; exact h1, h2, ?_, ?_⟩⟩
  · rw [← hsz]; simp
  · rw [hlen, List.flatMap_append, List.flatMap_cons]
    show List.take _ ((xs.take k).flatMap cfl ++ (cfl c ++ ((xs.drop k).flatMap cfl ++ tail))) = _
    have e : (xs.take k).flatMap cfl ++ (cfl c ++ ((xs.drop k).flatMap cfl ++ tail)) = ((xs.take k).flatMap cfl ++ (cfl c ++ (xs.drop k).flatMap cfl)) ++ tail := by simp
    rw [e, List.take_left' (by rw [List.length_append, List.length_append, flatc_len, flatc_len, cfl_len]; simp; omega)]
theorem ins_at {c : Cf} : ∀ {xs : List Cf} {k : Nat}, k ≤ xs.length → (∀ j, j < k → ¬ c.i < (ge xs j).i) → (k < xs.length → c.i < (ge xs k).i) → ins c xs = xs.take k ++ c :: xs.drop k
  | [], k, hk, _, _ => by
    obtain rfl : k = 0 := by simpa using hk
    rfl
  | d :: t, 0, _, _, h => by
    have := h (by simp)
    have this : c.i < d.i := this
    unfold ins
    rw [if_pos this]; rfl
  | d :: t, k + 1, hk, h1, h2 => by
    have h0 : ¬ c.i < d.i := h1 0 (by omega)
    unfold ins
    rw [if_neg h0, ins_at (xs := t) (k := k) (by simpa using hk) (fun j hj => h1 (j + 1) (by omega)) (fun hj => h2 (by simpa using hj))]
    rfl
theorem own_old {w w' : World} {b : Nat} {e : TypeId} {sz n : Nat} {v : Value} {xs : List Value} (h : w.ownsRow b e sz v n xs) (hb : Below w.heap.size w w') : w'.ownsRow b e sz v n xs := by
  refine ⟨h.1, ?_⟩
  rcases h.2 with ⟨h1, h2⟩ | ⟨g, cap, cur, h1, h2, h3, h4⟩
  · exact .inl ⟨h1, h2⟩
  · exact .inr ⟨g, cap, cur, h1, h2, (hb.block g (Array.getElem?_eq_some_iff.1 h3).1).trans h3, h4⟩
theorem appCertA {w : World} {base : Nat} {v : Value} {xs : List Cf} {c : Cf} {g : Nat} (hown : w.ownsRow base 46 5 v xs.length (xs.flatMap cfl)) (hB : Bk w g 46 #[.int .i64 c.i, .int .i64 c.c, .int .i64 c.g, .int .i64 c.t, .int .i64 c.r]) (h1 : xs.length ≤ 1000) (hb : base ≤ w.heap.size) :
    ∃ v' w', (Builtin.append_ #[42, 42] 42 #[v, .slice (some ⟨g, 0, none⟩) 1 1]).run Tryz.prog w = .ok v' w' ∧ w'.ownsRow base 46 5 v' (xs.length + 1) ((xs ++ [c]).flatMap cfl) ∧ w.grownBy w' v.ownBlock ∧ (v'.ownBlock = v.ownBlock ∨ v'.ownBlock = some w.heap.size) := by
  obtain ⟨i0, hi0, hz0, hz1, hz2⟩ := info_parts infoCert
  obtain ⟨v', w', h2, h3, h4, -, h5⟩ := run_append_own_at (P := Tryz.prog) (w := w) base 42 42 46 i0 (cfv ⟨0, 0, 0, 0, 0⟩) 5 40 Tryz.underlying42 hi0 hz0 hz1 hz2 rfl (by decide) v xs.length (xs.flatMap cfl) hown ⟨g, 0, none⟩ 1 1 (cfl c) (cfl_len c) (fun j u hu => by
    have := rdr_news cfl_len (by omega) (rdc_one c hB) j u
    simp at this
    exact this hu) (fun u hu => by revert hu; simp [cfl]; rintro (rfl | rfl | rfl | rfl | rfl) <;> rfl) (by simp only [maxLen]; omega) (by omega) hb
  exact ⟨v', w', h2, by rw [List.flatMap_append]; simpa using h3, h4, h5⟩
theorem curN_skip {L : List Le} {n : Nat} (h : ¬ ((ge L n).k = 0 ∧ gon L (ge L n).f.i = false)) : curN L (n + 1) = curN L n := if_neg h
theorem curN_ins {L : List Le} {n : Nat} (h : (ge L n).k = 0 ∧ gon L (ge L n).f.i = false) : curN L (n + 1) = ins (ge L n).f (curN L n) := if_pos h
theorem asc_lt {xs : List Cf} (h : Asc xs) {a b : Nat} (hab : a < b) (hb : b < xs.length) : (ge xs a).i < (ge xs b).i := by
  have := List.pairwise_iff_getElem.1 h a b (by omega) hb hab
  have e1 := Mw.ge_lt xs a (by omega)
  have e2 := Mw.ge_lt xs b hb
  rw [List.getElem?_eq_getElem (by omega)] at e1 e2
  injection e1 with e1
  injection e2 with e2
  rw [← e1, ← e2]; exact this
theorem wpList_copy_run {P : Program} {w : World} {ops : Array Oper} {rest : List Oper} {o : Oper} {a : Act} {Q : Exit → Act → World → Prop} (hgd : o.guard = none) (d s : Operand) (dT sT : TypeId)
    (ho : o.op = .call { callee := .builtin .copy, args := #[d, s], argTypes := #[dT, sT] }) (v u : Value) (hd : a.eval d = v) (hs : a.eval s = u) (r : Value) (w' : World)
    (hrun : (Builtin.copy_ #[dT, sT] o.type #[v, u]).run P w = .ok r w') (h : wpList P ops Q rest (a.put o.dst r) w') : wpList P ops Q (o :: rest) a w :=
  wpList_plain hgd fun _ hK => by
    unfold Oper.wp execOp
    simp only [ho, resolve, invoke, builtin, Sem.run_bind, Sem.run_pure, Result.andThen_ok, List.map_toArray, List.map_cons, List.map_nil, hd, hs, hrun]
    exact hK _ _ h
theorem row_copy (A D E tl : List Value) (hE : E.length = 5) : ∃ X : List Value, X.length = 5 ∧ (A ++ (D ++ (E ++ tl))).take (A.length + 5) ++ D ++ (A ++ (D ++ (E ++ tl))).drop (A.length + 5 + D.length) = A ++ (X ++ (D ++ tl)) := by
  refine ⟨(D ++ (E ++ tl)).take 5, by rw [List.length_take]; simp; omega, ?_⟩
  rw [List.take_length_add_append, Nat.add_assoc, List.drop_length_add_append, Nat.add_comm 5, List.drop_length_add_append, ← hE, List.drop_left]
  simp
theorem cells5 {w : World} {g : Nat} {T : TypeId} {A Y : List Value} {x0 x1 x2 x3 x4 : Value} (hg : w.heap[g]? = some (.cells (A ++ ([x0, x1, x2, x3, x4] ++ Y)).toArray T (0, 0))) :
    w.cell? ⟨g, A.length, none⟩ = some x0 ∧ w.cell? ⟨g, A.length + 1, none⟩ = some x1 ∧ w.cell? ⟨g, A.length + 2, none⟩ = some x2 ∧ w.cell? ⟨g, A.length + 3, none⟩ = some x3 ∧ w.cell? ⟨g, A.length + 4, none⟩ = some x4 := by
  have h : Bk w g T _ := hg
  have e : ∀ j, w.cell? ⟨g, A.length + j, none⟩ = ([x0, x1, x2, x3, x4] ++ Y)[j]? := fun j => by
    rw [h.cell, List.getElem?_toArray, List.getElem?_append_right (Nat.le_add_right _ _), Nat.add_sub_cancel_left]
  exact ⟨e 0, e 1, e 2, e 3, e 4⟩
theorem row_split {cur : Array Value} {xs : List Cf} {c : Cf} {k : Nat} (hk : k ≤ xs.length) (h : List.take ((xs.length + 1) * 5) cur.toList = (xs ++ [c]).flatMap cfl) : cur = ((xs.take k).flatMap cfl ++ ((xs.drop k).flatMap cfl ++ (cfl c ++ cur.toList.drop ((xs.length + 1) * 5)))).toArray := by
  have e := List.take_append_drop ((xs.length + 1) * 5) cur.toList
  rw [h, List.flatMap_append] at e
  have e2 : xs.flatMap cfl = (xs.take k).flatMap cfl ++ (xs.drop k).flatMap cfl := by rw [← List.flatMap_append, List.take_append_drop]
  rw [e2] at e
  have e4 : cur.toList = (xs.take k).flatMap cfl ++ ((xs.drop k).flatMap cfl ++ (cfl c ++ cur.toList.drop ((xs.length + 1) * 5))) := e.symm.trans (by simp)
  have e5 := congrArg List.toArray e4
  rwa [Array.toArray_toList] at e5
set_option maxHeartbeats 40000000 in
theorem rcurrent_any (l : List Le) (A : Option Addr) (c : Nat) (w : World) (hr : RdL w A l) (hlc : l.length ≤ c) : Calls Tryz.prog 27 #[.slice A l.length c] w (CE (crr l) w) := by
  have HCk := Lib.hid (rcheck_any l A c w hr hlc)
  have HR := Lib.hid hr
  clear hr
  by_cases hz : chk l = 0
  · have z0 : (chk l != 0) = false := by rw [hz]; rfl
    have hV := V_chk hz
    have hle := (inv_of hV).len
    have HV := Lib.hid hV
    have HCr : Hid (crr l = curN l l.length) := crr_0 hz
    clear hz hV
    go_enter Tryz.func27, Tryz.ntmps27
    go_wp2_with fail
    refine HCk.out.mono ?_
    rintro e w1 ⟨rfl, hb1⟩
    have HR1 : Hid (RdL w1 A l) := HR.out.old hb1
    clear HCk
    go_wp2_with fail
    go_loopw [3, 4] (fun x j wr => ∃ i : Nat, i ≤ l.length ∧ j = .int .i64 i ∧ wr.ownsRow w1.heap.size 46 5 x (curN l i).length ((curN l i).flatMap cfl) ∧ Below w1.heap.size w1 wr) (fun _ j _ => l.length - (RowKit.intOf j).toNat)
    case atStart => exact ⟨0, by omega, rfl, World.ownsRow_nil _ _ _ _, Below.refl _ _⟩
    case round =>
      obtain ⟨i, hi, rfl, hown, hb⟩ := hrel
      by_cases hlt : i < l.length
      · have hrk := HR1.out.old hb
        obtain ⟨b, off, rfl, hbl, c0, c1, c2, c3, c4, c5⟩ := le_at hrk i hlt
        have hlt' : (i : Int) < l.length := by omega
        have hC : Bk (wr.alloc (.cells #[.int .i64 (ge l i).f.i, .int .i64 (ge l i).f.c, .int .i64 (ge l i).f.g, .int .i64 (ge l i).f.t, .int .i64 (ge l i).f.r] 46)) wr.heap.size 46 #[.int .i64 (ge l i).f.i, .int .i64 (ge l i).f.c, .int .i64 (ge l i).f.g, .int .i64 (ge l i).f.t, .int .i64 (ge l i).f.r] := Mw.Bk.new _ _ _
        have hownC := hown.alloc (.cells #[.int .i64 (ge l i).f.i, .int .i64 (ge l i).f.c, .int .i64 (ge l i).f.g, .int .i64 (ge l i).f.t, .int .i64 (ge l i).f.r] 46)
        have hbC := Mw.bl_alloc hb (.cells #[.int .i64 (ge l i).f.i, .int .i64 (ge l i).f.c, .int .i64 (ge l i).f.g, .int .i64 (ge l i).f.t, .int .i64 (ge l i).f.r] 46)
        have hxb : ∀ q, u3.ownBlock = some q → q < wr.heap.size := fun q hq => (hown.lt q hq).2
        have hn := len_curN l i
        have HG := Lib.hid (rgone_any l (some ⟨b, off, none⟩) c (ge l i).f.i _ (hrk.alloc (.cells #[.int .i64 (ge l i).f.i, .int .i64 (ge l i).f.c, .int .i64 (ge l i).f.g, .int .i64 (ge l i).f.t, .int .i64 (ge l i).f.r] 46)) (by simp only [maxLen]; omega))
        clear hown hb hrk
        by_cases hk : (ge l i).k = 0
        · have t0 : ((ge l i).k != 0) = false := by rw [hk]; rfl
          have HK0 := Lib.hid hk
          clear hk
          go_wp2_with fail
          refine HG.out.mono ?_
          rintro e w2 ⟨rfl, hbq⟩
          have hC2 := hC.old hbq
          have hown2 := own_old hownC hbq
          have hb2 := bl_trans hbC hbq
          have hs2 : wr.heap.size < w2.heap.size := hC2.lt
          clear hC hownC hbC hbq HG c0 c1 c2 c3 c4 c5 hbl
          cases hg : gon l (ge l i).f.i
          · have HK : Hid (curN l (i + 1) = ins (ge l i).f (curN l i)) := curN_ins ⟨HK0.out, hg⟩
            have hA := asc_curN HV.out (n := i) (by omega)
            clear hg
            generalize (ge l i).f = ci at *
            generalize hxs : curN l i = xs at *
            have Hxs := Lib.hid hxs
            clear hxs
            obtain ⟨B, cB, hxe, hcB, hrB, -⟩ := own_rows cfl_len (by omega) hown2
            subst hxe
            have HA := Lib.hid hA
            have HB := Lib.hid hrB
            have HO := Lib.hid hown2
            have HX := Lib.hid hxb
            clear hA hrB hown2 hxb
            go_wp2_with fail
            obtain ⟨wo, rfl⟩ : ∃ wo : World, wo = wr := ⟨_, rfl⟩
            go_loopw [6] (fun kk wv => ∃ k : Nat, k ≤ xs.length ∧ kk = .int .i64 k ∧ (k < xs.length → ci.i < (ge xs k).i) ∧ Below w2.heap.size w2 wv) (fun kk _ => (RowKit.intOf kk).toNat)
            case atStart => exact ⟨xs.length, Nat.le_refl _, rfl, fun h => absurd h (by omega), Below.refl _ _⟩
            case round =>
              obtain ⟨k, hkn, rfl, hlk, hbv⟩ := hrel
              have hCv := hC2.old hbv
              have d0 := hCv.cell 0
              have dl := hCv.lt
              have HLk := Lib.hid hlk
              clear hlk
              by_cases hk0 : k = 0
              · have HI : Hid (ins ci xs = xs.take k ++ ci :: xs.drop k) := ins_at hkn (fun j hj => by omega) HLk.out
                have u0 : decide ((0 : Int) < (k : Int)) = false := decide_eq_false (by omega)
                have u1 : decide (0 < k) = false := decide_eq_false (by omega)
                have u2 : ¬ (0 : Int) < (k : Int) := by omega
                have u3 : ¬ 0 < k := by omega
                clear hk0
                go_wp2_with fail
                refine Mm.region_ext (by kernel_rfl) (by kernel_rfl) ?_; (repeat (first | go_big_quiet_step (fail) | quiet_step (fail))); refine wpQuiet_nil ?_
                intro wy hby
                have hby2 := bl_trans hbv hby
                have hCy := hC2.old hby2
                have hown := own_old HO.out hby2
                have hby3 := bl_trans hb2 hby2
                have hsy : wo.heap.size < wy.heap.size := hCy.lt
                clear hby hbv hCv d0 dl HLk
                have d0 := hCy.cell 0
                have d1 := hCy.cell 1
                have d2 := hCy.cell 2
                have d3 := hCy.cell 3
                have d4 := hCy.cell 4
                have dl := hCy.lt
                obtain ⟨v3, w3, hrun, hown3, hg3, hat⟩ := appCertA (c := ci) (g := wy.heap.size) (hown.alloc (.cells #[.int .i64 ci.i, .int .i64 ci.c, .int .i64 ci.g, .int .i64 ci.t, .int .i64 ci.r] 46)) (Mw.Bk.new _ _ _) (by omega) (by have := hby3.size; simp; omega)
                have hC3 : Bk w3 wo.heap.size 46 #[.int .i64 ci.i, .int .i64 ci.c, .int .i64 ci.g, .int .i64 ci.t, .int .i64 ci.r] := Mw.Bk.grown (hCy.alloc _) hg3 (fun e => by have := HX.out _ e.symm; omega)
                have hb4 : Below w1.heap.size w1 w3 := Below.grown (Mw.bl_alloc hby3 _) hg3 (by have := hby3.size; simp; omega) (fun q hq => (hown.lt q hq).1)
                have hXg : ∀ q, v3.ownBlock = some q → q ≠ wo.heap.size := fun q hq => by
                  rcases hat with h | h
                  · rw [h] at hq; have := HX.out q hq; omega
                  · rw [h] at hq; simp at hq; omega
                rcases hown3.2 with ⟨rfl, h0⟩ | ⟨g, cap, cur, rfl, hgb, hgh, hcap, hmx, hsz, htk⟩
                · omega
                have hgC : g ≠ wo.heap.size := hXg g rfl
                have hgl : g < w3.heap.size := (Array.getElem?_eq_some_iff.1 hgh).1
                clear hg3 hat hXg hown hown3 hby2 hby3 hCy
                go_wp2_with (at_builtin; refine wpList_append_run rfl (.tmp 50) (.tmp 52) 42 rfl _ (.slice (some ⟨wy.heap.size, 0, none⟩) 1 1) rfl rfl _ w3 (by exact hrun) ?_)
                clear hrun d0 d1 d2 d3 d4 dl
                have HS := Lib.hid hsz
                have HT := Lib.hid htk
                have HGH := Lib.hid hgh
                clear hsz htk hgh
                have r0 : (0 : Int) ≤ (k : Int) := by omega
                have r1 : (k : Int) ≤ (xs.length : Int) + 1 := by omega
                have r2 : (k : Int) + 1 ≤ (xs.length : Int) + 1 := by omega
                have r3 : ((xs.length : Int) + 1) ≤ (cap : Int) := by omega
                have r4 : (0 : Int) ≤ (k : Int) + 1 := by omega
                have r5 : k ≤ xs.length + 1 := by omega
                have r6 : k + 1 ≤ xs.length + 1 := by omega
                have r7 : xs.length + 1 ≤ cap := by omega
                by_cases hkx : k = xs.length
                · obtain rfl : k = xs.length := hkx
                  by_cases hce : cap = xs.length + 1
                  · obtain rfl : cap = xs.length + 1 := hce
                    go_wp2_with fail
                    refine Qt.region_ext_tail 7 (by kernel_rfl) (by kernel_rfl) ?_; simp only [List.take_succ_cons, List.take_zero, List.drop_succ_cons, List.drop_zero]; (repeat (first | go_big_quiet_step (fail) | quiet_step (fail))); refine wpQuiet_nil ?_
                    intro w4 hb5
                    refine wpList_copy_run rfl (.tmp 57) (.tmp 60) 42 42 rfl _ _ rfl rfl _ _ (run_copy0 _ _ _ _ _ _ _) ?_
                    have hC5 := hC3.old hb5
                    have hb6 := hb4.trans (hb5.mono hb4.size)
                    have hrow0 := (hb5.block g hgl).trans HGH.out
                    obtain ⟨w5, hw5⟩ : ∃ w5, w5 = w4 := ⟨_, rfl⟩
                    rw [← hw5] at hC5 hb6 hrow0 ⊢
                    obtain ⟨X, hX5, hrow, htot⟩ : ∃ X : List Value, X.length = 5 ∧ w5.heap[g]? = some (.cells ((xs.take xs.length).flatMap cfl ++ (X ++ ((xs.drop xs.length).flatMap cfl ++ cur.toList.drop ((xs.length + 1) * 5)))).toArray 46 (0, 0)) ∧ ((xs.take xs.length).flatMap cfl ++ (X ++ ((xs.drop xs.length).flatMap cfl ++ cur.toList.drop ((xs.length + 1) * 5)))).length = (xs.length + 1) * 5 := by
                      have hsp := row_split (k := xs.length) (Nat.le_refl _) HT.out
                      have hdr : (xs.drop xs.length).flatMap cfl = [] := by rw [List.drop_length]; rfl
                      rw [hdr, List.nil_append] at hsp ⊢
                      refine ⟨cfl ci, rfl, by rw [← hsp]; exact hrow0, ?_⟩
                      have h1 := HS.out
                      rw [hsp] at h1
                      simpa using h1
                    have HKN : Hid (xs.length ≤ xs.length) := Nat.le_refl _
                    have HI : Hid (ins ci xs = xs.take xs.length ++ ci :: xs.drop xs.length) := HI.out
                    clear hrow0 hw5 hb5 hC3 hb4 HS HT HGH r0 r1 r2 r4 r5 r6 u0 u1 u2 u3 hkn
                    obtain ⟨x0, x1, x2, x3, x4, rfl⟩ := len5 hX5
                    have hA5 : ((xs.take xs.length).flatMap cfl).length = xs.length * 5 := by rw [flatc_len]; simp
                    have hce5 := cells5 hrow
                    rw [hA5] at hce5
                    obtain ⟨e0, e1, e2, e3, e4⟩ := hce5
                    have zf : ∀ o, w5.frozen? ⟨g, o, none⟩ = false := fun o => Mw.Bk.frozen (show Bk w5 g 46 _ from hrow) o
                    have d0 := hC5.cell 0
                    have d1 := hC5.cell 1
                    have d2 := hC5.cell 2
                    have d3 := hC5.cell 3
                    have d4 := hC5.cell 4
                    have dl := hC5.lt
                    have gl : g < w5.heap.size := (Array.getElem?_eq_some_iff.1 hrow).1
                    have hown := ins_sets (c := ci) hrow rfl HKN.out htot hgb hcap hmx
                    have HOW : Hid (_ = _ ∧ _) := ⟨HK.out.trans HI.out, hown⟩
                    have hbF : Below w1.heap.size w1 (((((w5.setCell ⟨g, xs.length * 5, none⟩ (.int .i64 ci.i)).setCell ⟨g, xs.length * 5 + 1, none⟩ (.int .i64 ci.c)).setCell ⟨g, xs.length * 5 + 2, none⟩ (.int .i64 ci.g)).setCell ⟨g, xs.length * 5 + 3, none⟩ (.int .i64 ci.t)).setCell ⟨g, xs.length * 5 + 4, none⟩ (.int .i64 ci.r)) := ((((hb6.setCell hgb _).setCell hgb _).setCell hgb _).setCell hgb _).setCell hgb _
                    have HBF := Lib.hid hbF
                    clear hrow hown hbF htot hA5 hC5 hb6
                    go_wp2_with fail
                    clear zf e0 e1 e2 e3 e4 d0 d1 d2 d3 d4 dl gl
                    go_roundw
                    case rel => exact ⟨i + 1, by omega, by go_num, by rw [HOW.out.1, show (List.take xs.length xs ++ ci :: List.drop xs.length xs).length = xs.length + 1 from by simp]; have h := HOW.out.2; rw [show (List.take xs.length xs ++ ci :: List.drop xs.length xs).length = xs.length + 1 from by simp] at h; exact h, HBF.out⟩
                    case measure => simp [RowKit.intOf]; omega
                  · have r8 : xs.length + 1 < cap := by omega
                    go_wp2_with fail
                    refine Qt.region_ext_tail 7 (by kernel_rfl) (by kernel_rfl) ?_; simp only [List.take_succ_cons, List.take_zero, List.drop_succ_cons, List.drop_zero]; (repeat (first | go_big_quiet_step (fail) | quiet_step (fail))); refine wpQuiet_nil ?_
                    intro w4 hb5
                    refine wpList_copy_run rfl (.tmp 57) (.tmp 60) 42 42 rfl _ _ rfl rfl _ _ (run_copy0 _ _ _ _ _ _ _) ?_
                    have hC5 := hC3.old hb5
                    have hb6 := hb4.trans (hb5.mono hb4.size)
                    have hrow0 := (hb5.block g hgl).trans HGH.out
                    obtain ⟨w5, hw5⟩ : ∃ w5, w5 = w4 := ⟨_, rfl⟩
                    rw [← hw5] at hC5 hb6 hrow0 ⊢
                    obtain ⟨X, hX5, hrow, htot⟩ : ∃ X : List Value, X.length = 5 ∧ w5.heap[g]? = some (.cells ((xs.take xs.length).flatMap cfl ++ (X ++ ((xs.drop xs.length).flatMap cfl ++ cur.toList.drop ((xs.length + 1) * 5)))).toArray 46 (0, 0)) ∧ ((xs.take xs.length).flatMap cfl ++ (X ++ ((xs.drop xs.length).flatMap cfl ++ cur.toList.drop ((xs.length + 1) * 5)))).length = cap * 5 := by
                      have hsp := row_split (k := xs.length) (Nat.le_refl _) HT.out
                      have hdr : (xs.drop xs.length).flatMap cfl = [] := by rw [List.drop_length]; rfl
                      rw [hdr, List.nil_append] at hsp ⊢
                      refine ⟨cfl ci, rfl, by rw [← hsp]; exact hrow0, ?_⟩
                      have h1 := HS.out
                      rw [hsp] at h1
                      simpa using h1
                    have HKN : Hid (xs.length ≤ xs.length) := Nat.le_refl _
                    have HI : Hid (ins ci xs = xs.take xs.length ++ ci :: xs.drop xs.length) := HI.out
                    clear hrow0 hw5 hb5 hC3 hb4 HS HT HGH r0 r1 r2 r4 r5 r6 u0 u1 u2 u3 hkn
                    obtain ⟨x0, x1, x2, x3, x4, rfl⟩ := len5 hX5
                    have hA5 : ((xs.take xs.length).flatMap cfl).length = xs.length * 5 := by rw [flatc_len]; simp
                    have hce5 := cells5 hrow
                    rw [hA5] at hce5
                    obtain ⟨e0, e1, e2, e3, e4⟩ := hce5
                    have zf : ∀ o, w5.frozen? ⟨g, o, none⟩ = false := fun o => Mw.Bk.frozen (show Bk w5 g 46 _ from hrow) o
                    have d0 := hC5.cell 0
                    have d1 := hC5.cell 1
                    have d2 := hC5.cell 2
                    have d3 := hC5.cell 3
                    have d4 := hC5.cell 4
                    have dl := hC5.lt
                    have gl : g < w5.heap.size := (Array.getElem?_eq_some_iff.1 hrow).1
                    have hown := ins_sets (c := ci) hrow rfl HKN.out htot hgb hcap hmx
                    have HOW : Hid (_ = _ ∧ _) := ⟨HK.out.trans HI.out, hown⟩
                    have hbF : Below w1.heap.size w1 (((((w5.setCell ⟨g, xs.length * 5, none⟩ (.int .i64 ci.i)).setCell ⟨g, xs.length * 5 + 1, none⟩ (.int .i64 ci.c)).setCell ⟨g, xs.length * 5 + 2, none⟩ (.int .i64 ci.g)).setCell ⟨g, xs.length * 5 + 3, none⟩ (.int .i64 ci.t)).setCell ⟨g, xs.length * 5 + 4, none⟩ (.int .i64 ci.r)) := ((((hb6.setCell hgb _).setCell hgb _).setCell hgb _).setCell hgb _).setCell hgb _
                    have HBF := Lib.hid hbF
                    clear hrow hown hbF htot hA5 hC5 hb6
                    go_wp2_with fail
                    clear zf e0 e1 e2 e3 e4 d0 d1 d2 d3 d4 dl gl
                    go_roundw
                    case rel => exact ⟨i + 1, by omega, by go_num, by rw [HOW.out.1, show (List.take xs.length xs ++ ci :: List.drop xs.length xs).length = xs.length + 1 from by simp]; have h := HOW.out.2; rw [show (List.take xs.length xs ++ ci :: List.drop xs.length xs).length = xs.length + 1 from by simp] at h; exact h, HBF.out⟩
                    case measure => simp [RowKit.intOf]; omega
                · have r8 : k < xs.length := by omega
                  go_wp2_with fail
                  refine Qt.region_ext_tail 7 (by kernel_rfl) (by kernel_rfl) ?_; simp only [List.take_succ_cons, List.take_zero, List.drop_succ_cons, List.drop_zero]; (repeat (first | go_big_quiet_step (fail) | quiet_step (fail))); refine wpQuiet_nil ?_
                  intro w4 hb5
                  have hC4 := hC3.old hb5
                  have hb6 := hb4.trans (hb5.mono hb4.size)
                  have hgh4 := (hb5.block g hgl).trans HGH.out
                  have hsp := row_split (k := k) hkn HT.out
                  have hAl : ((xs.take k).flatMap cfl).length = k * 5 := by rw [flatc_len]; simp; omega
                  have hDl : ((xs.drop k).flatMap cfl).length = (xs.length - k) * 5 := by rw [flatc_len]; simp
                  refine wpList_copy_run rfl (.tmp 57) (.tmp 60) 42 42 rfl _ _ rfl rfl _ _ (run_copy5 w4 _ g ((k + 1) * 5) _ _ ⟨g, k * 5, none⟩ _ _ cur 46 ((xs.drop k).flatMap cfl) hgh4 (by rw [hDl]; congr 1; show xs.length - k = min _ _; omega) (fun j v hj => by
                      have hjl : j < ((xs.drop k).flatMap cfl).length := by
                        rcases Nat.lt_or_ge j ((xs.drop k).flatMap cfl).length with h1 | h1
                        · exact h1
                        · rw [List.getElem?_eq_none h1] at hj; cases hj
                      have e1 : (⟨g, k * 5, none⟩ : Addr).add j = ⟨g, k * 5 + j, none⟩ := by
                        unfold Addr.add
                        by_cases h : j = 0
                        · subst h; rfl
                        · simp [h]
                      rw [e1, Mw.Bk.cell (show Bk w4 g 46 cur from hgh4), hsp, List.getElem?_toArray, ← hAl, List.getElem?_append_right (Nat.le_add_right _ _), Nat.add_sub_cancel_left, List.getElem?_append_left hjl]
                      exact hj) (by rw [hDl, HS.out]; omega) (fun u hu => by obtain ⟨d, _, hd⟩ := List.mem_flatMap.1 hu; revert hd; simp [cfl]; rintro (rfl | rfl | rfl | rfl | rfl) <;> rfl)) ?_
                  have hrow1 := setRow_heap w4 g cur (cur.toList.take ((k + 1) * 5) ++ (xs.drop k).flatMap cfl ++ cur.toList.drop ((k + 1) * 5 + ((xs.drop k).flatMap cfl).length)).toArray 46 (0, 0) hgh4
                  have hC5 : Bk (w4.setRow g (cur.toList.take ((k + 1) * 5) ++ (xs.drop k).flatMap cfl ++ cur.toList.drop ((k + 1) * 5 + ((xs.drop k).flatMap cfl).length)).toArray) wo.heap.size 46 _ := (setRow_other w4 g wo.heap.size _ (Ne.symm hgC)).trans hC4
                  have hb7 := below_setRow hb6 hgb (cur.toList.take ((k + 1) * 5) ++ (xs.drop k).flatMap cfl ++ cur.toList.drop ((k + 1) * 5 + ((xs.drop k).flatMap cfl).length)).toArray
                  generalize w4.setRow g (cur.toList.take ((k + 1) * 5) ++ (xs.drop k).flatMap cfl ++ cur.toList.drop ((k + 1) * 5 + ((xs.drop k).flatMap cfl).length)).toArray = w5 at *
                  obtain ⟨X, hX5, hrow, htot⟩ : ∃ X : List Value, X.length = 5 ∧ w5.heap[g]? = some (.cells ((xs.take k).flatMap cfl ++ (X ++ ((xs.drop k).flatMap cfl ++ cur.toList.drop ((xs.length + 1) * 5)))).toArray 46 (0, 0)) ∧ ((xs.take k).flatMap cfl ++ (X ++ ((xs.drop k).flatMap cfl ++ cur.toList.drop ((xs.length + 1) * 5)))).length = cap * 5 := by
                    obtain ⟨X, hX5, he⟩ := row_copy ((xs.take k).flatMap cfl) ((xs.drop k).flatMap cfl) (cfl ci) (cur.toList.drop ((xs.length + 1) * 5)) rfl
                    have hcl : cur.toList = (xs.take k).flatMap cfl ++ ((xs.drop k).flatMap cfl ++ (cfl ci ++ cur.toList.drop ((xs.length + 1) * 5))) := by
                      have := congrArg Array.toList hsp
                      simpa using this
                    rw [← hcl, hAl, show k * 5 + 5 = (k + 1) * 5 by omega] at he
                    rw [he] at hrow1
                    refine ⟨X, hX5, hrow1, ?_⟩
                    have h1 := HS.out
                    have h2 : cur.size = cur.toList.length := by simp
                    rw [h2, hcl] at h1
                    rw [← h1]
                    simp only [List.length_append, hX5, cfl_len]
                    omega
                  have hb6 := hb7
                  have HKN : Hid (k ≤ xs.length) := hkn
                  clear hrow1 hb7 hb5 hC3 hC4 hb4 hgh4 hsp hAl hDl HS HT HGH r0 r1 r2 r4 r5 r6 u0 u1 u2 u3
                  obtain ⟨x0, x1, x2, x3, x4, rfl⟩ := len5 hX5
                  have hA5 : ((xs.take k).flatMap cfl).length = k * 5 := by rw [flatc_len]; simp; omega
                  have hce5 := cells5 hrow
                  rw [hA5] at hce5
                  obtain ⟨e0, e1, e2, e3, e4⟩ := hce5
                  have zf : ∀ o, w5.frozen? ⟨g, o, none⟩ = false := fun o => Mw.Bk.frozen (show Bk w5 g 46 _ from hrow) o
                  have d0 := hC5.cell 0
                  have d1 := hC5.cell 1
                  have d2 := hC5.cell 2
                  have d3 := hC5.cell 3
                  have d4 := hC5.cell 4
                  have dl := hC5.lt
                  have gl : g < w5.heap.size := (Array.getElem?_eq_some_iff.1 hrow).1
                  have hown := ins_sets (c := ci) hrow rfl HKN.out htot hgb hcap hmx
                  have HOW : Hid (_ = _ ∧ _) := ⟨HK.out.trans HI.out, hown⟩
                  have hbF : Below w1.heap.size w1 (((((w5.setCell ⟨g, k * 5, none⟩ (.int .i64 ci.i)).setCell ⟨g, k * 5 + 1, none⟩ (.int .i64 ci.c)).setCell ⟨g, k * 5 + 2, none⟩ (.int .i64 ci.g)).setCell ⟨g, k * 5 + 3, none⟩ (.int .i64 ci.t)).setCell ⟨g, k * 5 + 4, none⟩ (.int .i64 ci.r)) := ((((hb6.setCell hgb _).setCell hgb _).setCell hgb _).setCell hgb _).setCell hgb _
                  have HBF := Lib.hid hbF
                  clear hrow hown hbF htot hA5 hC5 hb6
                  go_wp2_with fail
                  clear zf e0 e1 e2 e3 e4 d0 d1 d2 d3 d4 dl gl
                  go_roundw
                  case rel => exact ⟨i + 1, by omega, by go_num, by rw [HOW.out.1, show (List.take k xs ++ ci :: List.drop k xs).length = xs.length + 1 from by simp; omega]; have h := HOW.out.2; rw [show (List.take k xs ++ ci :: List.drop k xs).length = xs.length + 1 from by simp; omega] at h; exact h, HBF.out⟩
                  case measure => simp [RowKit.intOf]; omega
              · obtain ⟨b', off', rfl, hbl', e0, e1, e2, e3, e4⟩ := cf_at (HB.out.old hbv) (k - 1) (by omega)
                obtain ⟨M, hM⟩ : ∃ M, M = k - 1 := ⟨_, rfl⟩
                rw [← hM] at e0 e1 e2 e3 e4
                have hw : IntKind.i64.wrap ((k : Int) - 1) = (M : Int) := by rw [IntWalk.i64_in _ (by omega)]; omega
                have u0 : decide ((0 : Int) < (k : Int)) = true := decide_eq_true (by omega)
                have u1 : decide (0 < k) = true := decide_eq_true (by omega)
                have u2 : (0 : Int) < (k : Int) := by omega
                have u3 : 0 < k := by omega
                have u4 : (0 : Int) ≤ (M : Int) := by omega
                have u5 : (M : Int) < xs.length := by omega
                have u6 : M < xs.length := by omega
                have HM := Lib.hid hM
                clear hM hk0
                by_cases hc : ci.i < (ge xs M).i
                · have v0 : decide (ci.i < (ge xs M).i) = true := decide_eq_true hc
                  have HL2 : Hid (M < xs.length → ci.i < (ge xs M).i) := fun _ => hc
                  clear hc
                  go_wp2_with fail
                  refine Mm.region_ext (by kernel_rfl) (by kernel_rfl) ?_; (repeat (first | go_big_quiet_step (fail) | quiet_step (fail))); refine wpQuiet_nil ?_
                  intro wy hby
                  have hbz := bl_trans hbv hby
                  go_wp2_with fail
                  go_roundw
                  case rel => exact ⟨M, by omega, by go_num, HL2.out, hbz⟩
                  case measure => have := HM.out; simp [RowKit.intOf]; omega
                · have v0 : decide (ci.i < (ge xs M).i) = false := decide_eq_false hc
                  have HI : Hid (ins ci xs = xs.take k ++ ci :: xs.drop k) := ins_at hkn (fun j hj => by
                    have h1 := HM.out
                    by_cases hjm : j = M
                    · rw [hjm]; exact hc
                    · have := asc_lt HA.out (a := j) (b := M) (by omega) (by omega)
                      omega) HLk.out
                  clear hc
                  go_wp2_with fail
                  refine Mm.region_ext (by kernel_rfl) (by kernel_rfl) ?_; (repeat (first | go_big_quiet_step (fail) | quiet_step (fail))); refine wpQuiet_nil ?_
                  intro wy hby
                  have hby2 := bl_trans hbv hby
                  have hCy := hC2.old hby2
                  have hown := own_old HO.out hby2
                  have hby3 := bl_trans hb2 hby2
                  have hsy : wo.heap.size < wy.heap.size := hCy.lt
                  clear hby hbv hCv d0 dl HLk e0 e1 e2 e3 e4 v0 u4 u5 u6 HM hbl'
                  have d0 := hCy.cell 0
                  have d1 := hCy.cell 1
                  have d2 := hCy.cell 2
                  have d3 := hCy.cell 3
                  have d4 := hCy.cell 4
                  have dl := hCy.lt
                  obtain ⟨v3, w3, hrun, hown3, hg3, hat⟩ := appCertA (c := ci) (g := wy.heap.size) (hown.alloc (.cells #[.int .i64 ci.i, .int .i64 ci.c, .int .i64 ci.g, .int .i64 ci.t, .int .i64 ci.r] 46)) (Mw.Bk.new _ _ _) (by omega) (by have := hby3.size; simp; omega)
                  have hC3 : Bk w3 wo.heap.size 46 #[.int .i64 ci.i, .int .i64 ci.c, .int .i64 ci.g, .int .i64 ci.t, .int .i64 ci.r] := Mw.Bk.grown (hCy.alloc _) hg3 (fun e => by have := HX.out _ e.symm; omega)
                  have hb4 : Below w1.heap.size w1 w3 := Below.grown (Mw.bl_alloc hby3 _) hg3 (by have := hby3.size; simp; omega) (fun q hq => (hown.lt q hq).1)
                  have hXg : ∀ q, v3.ownBlock = some q → q ≠ wo.heap.size := fun q hq => by
                    rcases hat with h | h
                    · rw [h] at hq; have := HX.out q hq; omega
                    · rw [h] at hq; simp at hq; omega
                  rcases hown3.2 with ⟨rfl, h0⟩ | ⟨g, cap, cur, rfl, hgb, hgh, hcap, hmx, hsz, htk⟩
                  · omega
                  have hgC : g ≠ wo.heap.size := hXg g rfl
                  have hgl : g < w3.heap.size := (Array.getElem?_eq_some_iff.1 hgh).1
                  clear hg3 hat hXg hown hown3 hby2 hby3 hCy
                  go_wp2_with (at_builtin; refine wpList_append_run rfl (.tmp 50) (.tmp 52) 42 rfl _ (.slice (some ⟨wy.heap.size, 0, none⟩) 1 1) rfl rfl _ w3 (by exact hrun) ?_)
                  clear hrun d0 d1 d2 d3 d4 dl
                  have HS := Lib.hid hsz
                  have HT := Lib.hid htk
                  have HGH := Lib.hid hgh
                  clear hsz htk hgh
                  have r0 : (0 : Int) ≤ (k : Int) := by omega
                  have r1 : (k : Int) ≤ (xs.length : Int) + 1 := by omega
                  have r2 : (k : Int) + 1 ≤ (xs.length : Int) + 1 := by omega
                  have r3 : ((xs.length : Int) + 1) ≤ (cap : Int) := by omega
                  have r4 : (0 : Int) ≤ (k : Int) + 1 := by omega
                  have r5 : k ≤ xs.length + 1 := by omega
                  have r6 : k + 1 ≤ xs.length + 1 := by omega
                  have r7 : xs.length + 1 ≤ cap := by omega
                  by_cases hkx : k = xs.length
                  · obtain rfl : k = xs.length := hkx
                    by_cases hce : cap = xs.length + 1
                    · obtain rfl : cap = xs.length + 1 := hce
                      go_wp2_with fail
                      refine Qt.region_ext_tail 7 (by kernel_rfl) (by kernel_rfl) ?_; simp only [List.take_succ_cons, List.take_zero, List.drop_succ_cons, List.drop_zero]; (repeat (first | go_big_quiet_step (fail) | quiet_step (fail))); refine wpQuiet_nil ?_
                      intro w4 hb5
                      refine wpList_copy_run rfl (.tmp 57) (.tmp 60) 42 42 rfl _ _ rfl rfl _ _ (run_copy0 _ _ _ _ _ _ _) ?_
                      have hC5 := hC3.old hb5
                      have hb6 := hb4.trans (hb5.mono hb4.size)
                      have hrow0 := (hb5.block g hgl).trans HGH.out
                      obtain ⟨w5, hw5⟩ : ∃ w5, w5 = w4 := ⟨_, rfl⟩
                      rw [← hw5] at hC5 hb6 hrow0 ⊢
                      obtain ⟨X, hX5, hrow, htot⟩ : ∃ X : List Value, X.length = 5 ∧ w5.heap[g]? = some (.cells ((xs.take xs.length).flatMap cfl ++ (X ++ ((xs.drop xs.length).flatMap cfl ++ cur.toList.drop ((xs.length + 1) * 5)))).toArray 46 (0, 0)) ∧ ((xs.take xs.length).flatMap cfl ++ (X ++ ((xs.drop xs.length).flatMap cfl ++ cur.toList.drop ((xs.length + 1) * 5)))).length = (xs.length + 1) * 5 := by
                        have hsp := row_split (k := xs.length) (Nat.le_refl _) HT.out
                        have hdr : (xs.drop xs.length).flatMap cfl = [] := by rw [List.drop_length]; rfl
                        rw [hdr, List.nil_append] at hsp ⊢
                        refine ⟨cfl ci, rfl, by rw [← hsp]; exact hrow0, ?_⟩
                        have h1 := HS.out
                        rw [hsp] at h1
                        simpa using h1
                      have HKN : Hid (xs.length ≤ xs.length) := Nat.le_refl _
                      have HI : Hid (ins ci xs = xs.take xs.length ++ ci :: xs.drop xs.length) := HI.out
                      clear hrow0 hw5 hb5 hC3 hb4 HS HT HGH r0 r1 r2 r4 r5 r6 u0 u1 u2 u3 hkn hw
                      obtain ⟨x0, x1, x2, x3, x4, rfl⟩ := len5 hX5
                      have hA5 : ((xs.take xs.length).flatMap cfl).length = xs.length * 5 := by rw [flatc_len]; simp
                      have hce5 := cells5 hrow
                      rw [hA5] at hce5
                      obtain ⟨e0, e1, e2, e3, e4⟩ := hce5
                      have zf : ∀ o, w5.frozen? ⟨g, o, none⟩ = false := fun o => Mw.Bk.frozen (show Bk w5 g 46 _ from hrow) o
                      have d0 := hC5.cell 0
                      have d1 := hC5.cell 1
                      have d2 := hC5.cell 2
                      have d3 := hC5.cell 3
                      have d4 := hC5.cell 4
                      have dl := hC5.lt
                      have gl : g < w5.heap.size := (Array.getElem?_eq_some_iff.1 hrow).1
                      have hown := ins_sets (c := ci) hrow rfl HKN.out htot hgb hcap hmx
                      have HOW : Hid (_ = _ ∧ _) := ⟨HK.out.trans HI.out, hown⟩
                      have hbF : Below w1.heap.size w1 (((((w5.setCell ⟨g, xs.length * 5, none⟩ (.int .i64 ci.i)).setCell ⟨g, xs.length * 5 + 1, none⟩ (.int .i64 ci.c)).setCell ⟨g, xs.length * 5 + 2, none⟩ (.int .i64 ci.g)).setCell ⟨g, xs.length * 5 + 3, none⟩ (.int .i64 ci.t)).setCell ⟨g, xs.length * 5 + 4, none⟩ (.int .i64 ci.r)) := ((((hb6.setCell hgb _).setCell hgb _).setCell hgb _).setCell hgb _).setCell hgb _
                      have HBF := Lib.hid hbF
                      clear hrow hown hbF htot hA5 hC5 hb6
                      go_wp2_with fail
                      clear zf e0 e1 e2 e3 e4 d0 d1 d2 d3 d4 dl gl
                      go_roundw
                      case rel => exact ⟨i + 1, by omega, by go_num, by rw [HOW.out.1, show (List.take xs.length xs ++ ci :: List.drop xs.length xs).length = xs.length + 1 from by simp]; have h := HOW.out.2; rw [show (List.take xs.length xs ++ ci :: List.drop xs.length xs).length = xs.length + 1 from by simp] at h; exact h, HBF.out⟩
                      case measure => simp [RowKit.intOf]; omega
                    · have r8 : xs.length + 1 < cap := by omega
                      go_wp2_with fail
                      refine Qt.region_ext_tail 7 (by kernel_rfl) (by kernel_rfl) ?_; simp only [List.take_succ_cons, List.take_zero, List.drop_succ_cons, List.drop_zero]; (repeat (first | go_big_quiet_step (fail) | quiet_step (fail))); refine wpQuiet_nil ?_
                      intro w4 hb5
                      refine wpList_copy_run rfl (.tmp 57) (.tmp 60) 42 42 rfl _ _ rfl rfl _ _ (run_copy0 _ _ _ _ _ _ _) ?_
                      have hC5 := hC3.old hb5
                      have hb6 := hb4.trans (hb5.mono hb4.size)
                      have hrow0 := (hb5.block g hgl).trans HGH.out
                      obtain ⟨w5, hw5⟩ : ∃ w5, w5 = w4 := ⟨_, rfl⟩
                      rw [← hw5] at hC5 hb6 hrow0 ⊢
                      obtain ⟨X, hX5, hrow, htot⟩ : ∃ X : List Value, X.length = 5 ∧ w5.heap[g]? = some (.cells ((xs.take xs.length).flatMap cfl ++ (X ++ ((xs.drop xs.length).flatMap cfl ++ cur.toList.drop ((xs.length + 1) * 5)))).toArray 46 (0, 0)) ∧ ((xs.take xs.length).flatMap cfl ++ (X ++ ((xs.drop xs.length).flatMap cfl ++ cur.toList.drop ((xs.length + 1) * 5)))).length = cap * 5 := by
                        have hsp := row_split (k := xs.length) (Nat.le_refl _) HT.out
                        have hdr : (xs.drop xs.length).flatMap cfl = [] := by rw [List.drop_length]; rfl
                        rw [hdr, List.nil_append] at hsp ⊢
                        refine ⟨cfl ci, rfl, by rw [← hsp]; exact hrow0, ?_⟩
                        have h1 := HS.out
                        rw [hsp] at h1
                        simpa using h1
                      have HKN : Hid (xs.length ≤ xs.length) := Nat.le_refl _
                      have HI : Hid (ins ci xs = xs.take xs.length ++ ci :: xs.drop xs.length) := HI.out
                      clear hrow0 hw5 hb5 hC3 hb4 HS HT HGH r0 r1 r2 r4 r5 r6 u0 u1 u2 u3 hkn hw
                      obtain ⟨x0, x1, x2, x3, x4, rfl⟩ := len5 hX5
                      have hA5 : ((xs.take xs.length).flatMap cfl).length = xs.length * 5 := by rw [flatc_len]; simp
                      have hce5 := cells5 hrow
                      rw [hA5] at hce5
                      obtain ⟨e0, e1, e2, e3, e4⟩ := hce5
                      have zf : ∀ o, w5.frozen? ⟨g, o, none⟩ = false := fun o => Mw.Bk.frozen (show Bk w5 g 46 _ from hrow) o
                      have d0 := hC5.cell 0
                      have d1 := hC5.cell 1
                      have d2 := hC5.cell 2
                      have d3 := hC5.cell 3
                      have d4 := hC5.cell 4
                      have dl := hC5.lt
                      have gl : g < w5.heap.size := (Array.getElem?_eq_some_iff.1 hrow).1
                      have hown := ins_sets (c := ci) hrow rfl HKN.out htot hgb hcap hmx
                      have HOW : Hid (_ = _ ∧ _) := ⟨HK.out.trans HI.out, hown⟩
                      have hbF : Below w1.heap.size w1 (((((w5.setCell ⟨g, xs.length * 5, none⟩ (.int .i64 ci.i)).setCell ⟨g, xs.length * 5 + 1, none⟩ (.int .i64 ci.c)).setCell ⟨g, xs.length * 5 + 2, none⟩ (.int .i64 ci.g)).setCell ⟨g, xs.length * 5 + 3, none⟩ (.int .i64 ci.t)).setCell ⟨g, xs.length * 5 + 4, none⟩ (.int .i64 ci.r)) := ((((hb6.setCell hgb _).setCell hgb _).setCell hgb _).setCell hgb _).setCell hgb _
                      have HBF := Lib.hid hbF
                      clear hrow hown hbF htot hA5 hC5 hb6
                      go_wp2_with fail
                      clear zf e0 e1 e2 e3 e4 d0 d1 d2 d3 d4 dl gl
                      go_roundw
                      case rel => exact ⟨i + 1, by omega, by go_num, by rw [HOW.out.1, show (List.take xs.length xs ++ ci :: List.drop xs.length xs).length = xs.length + 1 from by simp]; have h := HOW.out.2; rw [show (List.take xs.length xs ++ ci :: List.drop xs.length xs).length = xs.length + 1 from by simp] at h; exact h, HBF.out⟩
                      case measure => simp [RowKit.intOf]; omega
                  · have r8 : k < xs.length := by omega
                    go_wp2_with fail
                    refine Qt.region_ext_tail 7 (by kernel_rfl) (by kernel_rfl) ?_; simp only [List.take_succ_cons, List.take_zero, List.drop_succ_cons, List.drop_zero]; (repeat (first | go_big_quiet_step (fail) | quiet_step (fail))); refine wpQuiet_nil ?_
                    intro w4 hb5
                    have hC4 := hC3.old hb5
                    have hb6 := hb4.trans (hb5.mono hb4.size)
                    have hgh4 := (hb5.block g hgl).trans HGH.out
                    have hsp := row_split (k := k) hkn HT.out
                    have hAl : ((xs.take k).flatMap cfl).length = k * 5 := by rw [flatc_len]; simp; omega
                    have hDl : ((xs.drop k).flatMap cfl).length = (xs.length - k) * 5 := by rw [flatc_len]; simp
                    refine wpList_copy_run rfl (.tmp 57) (.tmp 60) 42 42 rfl _ _ rfl rfl _ _ (run_copy5 w4 _ g ((k + 1) * 5) _ _ ⟨g, k * 5, none⟩ _ _ cur 46 ((xs.drop k).flatMap cfl) hgh4 (by rw [hDl]; congr 1; show xs.length - k = min _ _; omega) (fun j v hj => by
                        have hjl : j < ((xs.drop k).flatMap cfl).length := by
                          rcases Nat.lt_or_ge j ((xs.drop k).flatMap cfl).length with h1 | h1
                          · exact h1
                          · rw [List.getElem?_eq_none h1] at hj; cases hj
                        have e1 : (⟨g, k * 5, none⟩ : Addr).add j = ⟨g, k * 5 + j, none⟩ := by
                          unfold Addr.add
                          by_cases h : j = 0
                          · subst h; rfl
                          · simp [h]
                        rw [e1, Mw.Bk.cell (show Bk w4 g 46 cur from hgh4), hsp, List.getElem?_toArray, ← hAl, List.getElem?_append_right (Nat.le_add_right _ _), Nat.add_sub_cancel_left, List.getElem?_append_left hjl]
                        exact hj) (by rw [hDl, HS.out]; omega) (fun u hu => by obtain ⟨d, _, hd⟩ := List.mem_flatMap.1 hu; revert hd; simp [cfl]; rintro (rfl | rfl | rfl | rfl | rfl) <;> rfl)) ?_
                    have hrow1 := setRow_heap w4 g cur (cur.toList.take ((k + 1) * 5) ++ (xs.drop k).flatMap cfl ++ cur.toList.drop ((k + 1) * 5 + ((xs.drop k).flatMap cfl).length)).toArray 46 (0, 0) hgh4
                    have hC5 : Bk (w4.setRow g (cur.toList.take ((k + 1) * 5) ++ (xs.drop k).flatMap cfl ++ cur.toList.drop ((k + 1) * 5 + ((xs.drop k).flatMap cfl).length)).toArray) wo.heap.size 46 _ := (setRow_other w4 g wo.heap.size _ (Ne.symm hgC)).trans hC4
                    have hb7 := below_setRow hb6 hgb (cur.toList.take ((k + 1) * 5) ++ (xs.drop k).flatMap cfl ++ cur.toList.drop ((k + 1) * 5 + ((xs.drop k).flatMap cfl).length)).toArray
                    generalize w4.setRow g (cur.toList.take ((k + 1) * 5) ++ (xs.drop k).flatMap cfl ++ cur.toList.drop ((k + 1) * 5 + ((xs.drop k).flatMap cfl).length)).toArray = w5 at *
                    obtain ⟨X, hX5, hrow, htot⟩ : ∃ X : List Value, X.length = 5 ∧ w5.heap[g]? = some (.cells ((xs.take k).flatMap cfl ++ (X ++ ((xs.drop k).flatMap cfl ++ cur.toList.drop ((xs.length + 1) * 5)))).toArray 46 (0, 0)) ∧ ((xs.take k).flatMap cfl ++ (X ++ ((xs.drop k).flatMap cfl ++ cur.toList.drop ((xs.length + 1) * 5)))).length = cap * 5 := by
                      obtain ⟨X, hX5, he⟩ := row_copy ((xs.take k).flatMap cfl) ((xs.drop k).flatMap cfl) (cfl ci) (cur.toList.drop ((xs.length + 1) * 5)) rfl
                      have hcl : cur.toList = (xs.take k).flatMap cfl ++ ((xs.drop k).flatMap cfl ++ (cfl ci ++ cur.toList.drop ((xs.length + 1) * 5))) := by
                        have := congrArg Array.toList hsp
                        simpa using this
                      rw [← hcl, hAl, show k * 5 + 5 = (k + 1) * 5 by omega] at he
                      rw [he] at hrow1
                      refine ⟨X, hX5, hrow1, ?_⟩
                      have h1 := HS.out
                      have h2 : cur.size = cur.toList.length := by simp
                      rw [h2, hcl] at h1
                      rw [← h1]
                      simp only [List.length_append, hX5, cfl_len]
                      omega
                    have hb6 := hb7
                    have HKN : Hid (k ≤ xs.length) := hkn
                    clear hrow1 hb7 hb5 hC3 hC4 hb4 hgh4 hsp hAl hDl HS HT HGH r0 r1 r2 r4 r5 r6 u0 u1 u2 u3 hw
                    obtain ⟨x0, x1, x2, x3, x4, rfl⟩ := len5 hX5
                    have hA5 : ((xs.take k).flatMap cfl).length = k * 5 := by rw [flatc_len]; simp; omega
                    have hce5 := cells5 hrow
                    rw [hA5] at hce5
                    obtain ⟨e0, e1, e2, e3, e4⟩ := hce5
                    have zf : ∀ o, w5.frozen? ⟨g, o, none⟩ = false := fun o => Mw.Bk.frozen (show Bk w5 g 46 _ from hrow) o
                    have d0 := hC5.cell 0
                    have d1 := hC5.cell 1
                    have d2 := hC5.cell 2
                    have d3 := hC5.cell 3
                    have d4 := hC5.cell 4
                    have dl := hC5.lt
                    have gl : g < w5.heap.size := (Array.getElem?_eq_some_iff.1 hrow).1
                    have hown := ins_sets (c := ci) hrow rfl HKN.out htot hgb hcap hmx
                    have HOW : Hid (_ = _ ∧ _) := ⟨HK.out.trans HI.out, hown⟩
                    have hbF : Below w1.heap.size w1 (((((w5.setCell ⟨g, k * 5, none⟩ (.int .i64 ci.i)).setCell ⟨g, k * 5 + 1, none⟩ (.int .i64 ci.c)).setCell ⟨g, k * 5 + 2, none⟩ (.int .i64 ci.g)).setCell ⟨g, k * 5 + 3, none⟩ (.int .i64 ci.t)).setCell ⟨g, k * 5 + 4, none⟩ (.int .i64 ci.r)) := ((((hb6.setCell hgb _).setCell hgb _).setCell hgb _).setCell hgb _).setCell hgb _
                    have HBF := Lib.hid hbF
                    clear hrow hown hbF htot hA5 hC5 hb6
                    go_wp2_with fail
                    clear zf e0 e1 e2 e3 e4 d0 d1 d2 d3 d4 dl gl
                    go_roundw
                    case rel => exact ⟨i + 1, by omega, by go_num, by rw [HOW.out.1, show (List.take k xs ++ ci :: List.drop k xs).length = xs.length + 1 from by simp; omega]; have h := HOW.out.2; rw [show (List.take k xs ++ ci :: List.drop k xs).length = xs.length + 1 from by simp; omega] at h; exact h, HBF.out⟩
                    case measure => simp [RowKit.intOf]; omega
          · have HK : Hid (curN l (i + 1) = curN l i) := curN_skip (fun h => by rw [h.2] at hg; cases hg)
            clear hg
            have HS : Hid (w2.ownsRow w1.heap.size 46 5 u3 (curN l (i + 1)).length ((curN l (i + 1)).flatMap cfl)) := by unfold Hid; rw [HK.out]; exact hown2
            clear hown2
            go_wp2_with fail
            go_roundw
            case rel => exact ⟨i + 1, by omega, by go_num, HS.out, hb2⟩
            case measure => simp [RowKit.intOf]; omega
        · have t0 : ((ge l i).k != 0) = true := bne_iff_ne.2 hk
          have HK : Hid (curN l (i + 1) = curN l i) := curN_skip (fun h => hk h.1)
          have HS : Hid ((wr.alloc (.cells #[.int .i64 (ge l i).f.i, .int .i64 (ge l i).f.c, .int .i64 (ge l i).f.g, .int .i64 (ge l i).f.t, .int .i64 (ge l i).f.r] 46)).ownsRow w1.heap.size 46 5 u3 (curN l (i + 1)).length ((curN l (i + 1)).flatMap cfl)) := by unfold Hid; rw [HK.out]; exact hownC
          clear hk HG hownC hC
          go_wp2_with fail
          go_roundw
          case rel => exact ⟨i + 1, by omega, by go_num, HS.out, hbC⟩
          case measure => simp [RowKit.intOf]; omega
      · have hil : i = l.length := by omega
        have HF : Hid (wr.ownsRow w1.heap.size 46 5 u3 (crr l).length ((crr l).flatMap cfl)) := by unfold Hid; rw [HCr.out, ← hil]; exact hown
        clear hil hown
        go_wp2_with fail
        go_ret
        exact ⟨_, rfl, Go.Joins.ownsRow_le HF.out hb1.size, hb1.trans (hb.mono hb1.size)⟩
  · have z0 : (chk l != 0) = true := bne_iff_ne.2 hz
    have HC : Hid (crr l = []) := if_neg hz
    clear hz
    go_enter Tryz.func27, Tryz.ntmps27
    go_wp2_with fail
    refine HCk.out.mono ?_
    rintro e w2 ⟨rfl, hb⟩
    go_wp2_with fail
    go_ret
    exact ⟨_, rfl, by rw [HC.out]; exact World.ownsRow_nil _ _ _ _, hb⟩
end Go.Proofs.YtdikoffppjoomaaGreat.Ct
