/- Walk: Prove. -/
import Derived.Test.YtdikoffppjoomaaGreatCQ
import Derived.WalkKit
import Derived.WalkSpells
import Derived.WalkLawsBesides
import Derived.Deep.QuietTactic
import Derived.BigQuiet
import Derived.Deep.Draws
import Derived.Deep.AppendLies
import Derived.Laws.OwnMore
import Derived.Laws.BytesArg
import Derived.Lib.Hide
import Derived.Deep.LoopGhost
import Derived.Deep.RegionLaw
namespace Go.Proofs.YtdikoffppjoomaaGreat.Ct
open Go.RowKit Go.Proofs.YtdikoffppjoomaaGreat.Dg
open Go.Proofs.YtdikoffppjoomaaGreat.Mw (I64 ret_int ret_bool Bk bl_trans own_ints RdI RdR ge ge_lt gi ge_mem own_rows)
open Go.Proofs.YtdikoffppjoomaaGreat.Tr (RdD leaf root path pathE ppath_ind own_digs)
set_option linter.unusedVariables false
set_option linter.unusedSimpArgs false
set_option maxRecDepth 100000

/-- A proof. -/
structure Pv where
  ix : Int
  pl : Int
  pa : List St
  sp : List St
abbrev pv0 : Pv := ⟨0, 0, [], []⟩
noncomputable def pvo (l : List Le) (id : Int) : Pv := ⟨fix (fun x => is1 x id) l 0, fix (fun x => decide (x.i = id)) (cur l) 0, (pathE (l.map dgE) (fix (fun x => is1 x id) l 0)).1, (pathE ((cur l).map dgC) (fix (fun x => decide (x.i = id)) (cur l) 0)).1⟩
/-- What Prove returns. -/
noncomputable def prv (l : List Le) (id : Int) : Pv × Int := if chk l = 0 then (if (fnd l id).isSome = true then (if gon l id = true then (pv0, 46) else (pvo l id, 0)) else (pv0, 4)) else (pv0, chk l)
def PvE (r : Pv × Int) (w : World) (e : Ending) (w' : World) : Prop := ∃ A ca B cb, e = .returned (.tuple #[.agg #[.int .i64 r.1.ix, .int .i64 r.1.pl, .slice A r.1.pa.length ca, .slice B r.1.sp.length cb], .int .i64 r.2]) ∧ r.1.pa.length ≤ ca ∧ ca ≤ maxLen ∧ RdD w' A r.1.pa ∧ r.1.sp.length ≤ cb ∧ cb ≤ maxLen ∧ RdD w' B r.1.sp ∧ Below w.heap.size w w'
theorem fix_in {α : Type} {p : α → Bool} : ∀ {l : List α} {n : Nat}, (∃ x, x ∈ l ∧ p x = true) → (n : Int) ≤ fix p l n ∧ fix p l n < n + l.length
  | [], _, ⟨x, h, _⟩ => by cases h
  | y :: l, n, ⟨x, h, hp⟩ => by
    unfold fix
    split
    · simp; omega
    · rename_i hn
      rcases List.mem_cons.1 h with rfl | h
      · exact absurd hp hn
      · have := fix_in (n := n + 1) ⟨x, h, hp⟩
        simp
        omega
theorem pathE_ok (l : List St) (i : Int) (h0 : 0 ≤ i) (h1 : i < l.length) (h2 : l.length ≤ 256) : (pathE l i).2 = 0 := by
  unfold Tr.pathE
  rw [if_neg (by omega), if_neg (by omega)]
theorem nou (a b : Int) (A B : Option Addr) (n c m d : Nat) : ∀ (j : Nat) (x : Int), (#[.int .i64 a, .int .i64 b, .slice A n c, .slice B m d] : Array Value)[j]? ≠ some (.int .u32 x) := by
  intro j x h
  match j with
  | 0 => simp at h
  | 1 => simp at h
  | 2 => simp at h
  | 3 => simp at h
  | j + 4 => simp at h
/-- Digests do not lie in a block without words. -/
theorem rdd_pf {w : World} {N : Nat} {T : TypeId} {cs : Array Value} {E : Option Addr} {l : List St} (hN : Bk w N T cs) (hcs : ∀ (j : Nat) (x : Int), cs[j]? ≠ some (.int .u32 x)) (h : RdD w E l) (i : Nat) (u : Value) : RdD (w.setCell ⟨N, i, none⟩ u) E l := fun k hk => by
  obtain ⟨b, off, e, hlt, hc⟩ := h k hk
  refine ⟨b, off, e, by simpa using hlt, fun j v hv => ?_⟩
  have hbn : b ≠ N := by
    intro e2
    subst e2
    have h0 := hc 0 _ rfl
    rw [hN.cell] at h0
    exact hcs _ _ h0
  rw [World.cell?_setCell_other w _ _ u (fun e => hbn (by injection e with e1 _ _; exact e1.symm))]
  exact hc j v hv
theorem rdd_pf4 {w : World} {N : Nat} {T : TypeId} {E : Option Addr} {l : List St} {a b a' b' : Int} {A B A' B' : Option Addr} {n c m d n' c' m' d' : Nat} (hN : Bk w N T #[.int .i64 a, .int .i64 b, .slice A n c, .slice B m d]) (h : RdD w E l) : RdD ((((w.setCell ⟨N, 0, none⟩ (.int .i64 a')).setCell ⟨N, 1, none⟩ (.int .i64 b')).setCell ⟨N, 2, none⟩ (.slice A' n' c')).setCell ⟨N, 3, none⟩ (.slice B' m' d')) E l := by
  have h0 := rdd_pf hN (nou _ _ _ _ _ _ _ _) h 0 (.int .i64 a')
  have b0 := hN.set 0 (.int .i64 a')
  simp only [List.setIfInBounds_toArray, List.set_cons_zero, List.set_cons_succ] at b0
  have h1 := rdd_pf b0 (nou _ _ _ _ _ _ _ _) h0 1 (.int .i64 b')
  have b1 := b0.set 1 (.int .i64 b')
  simp only [List.setIfInBounds_toArray, List.set_cons_zero, List.set_cons_succ] at b1
  have h2 := rdd_pf b1 (nou _ _ _ _ _ _ _ _) h1 2 (.slice A' n' c')
  have b2 := b1.set 2 (.slice A' n' c')
  simp only [List.setIfInBounds_toArray, List.set_cons_zero, List.set_cons_succ] at b2
  exact rdd_pf b2 (nou _ _ _ _ _ _ _ _) h2 3 (.slice B' m' d')
/-- A list of digests that was made anew, and an error. -/
def PEF (x : List St × Int) (w : World) (e : Ending) (w' : World) : Prop := ∃ A c, e = .returned (.tuple #[.slice A x.1.length c, .int .i64 x.2]) ∧ x.1.length ≤ c ∧ c ≤ maxLen ∧ RdD w' A x.1 ∧ Below w.heap.size w w' ∧ ∀ a, A = some a → w.heap.size ≤ a.block
theorem PEF_nil (k : Int) (x : List St × Int) (hx : x = ([], k)) (w : World) : PEF x w (.returned (.tuple #[.slice none 0 0, .int .i64 k])) w := by
  subst hx
  exact ⟨none, 0, rfl, by simp, by simp, RdD.nil _ _, Below.refl _ _, fun a ha => by cases ha⟩
set_option maxHeartbeats 1000000 in
theorem ppathF_any (l : List St) (A : Option Addr) (c : Nat) (i : Int) (w : World) (hl : l.length ≤ 1000000) (hlc : l.length ≤ c) (hcm : c ≤ maxLen) (hr : RdD w A l) :
    Calls Tryz.prog 58 #[.slice A l.length c, .int .i64 i] w (PEF (pathE l i) w) := by
  by_cases h1 : 256 < l.length
  · have He : Hid (pathE l i = ([], 3)) := if_pos h1
    have t1 : decide ((256 : Int) < (l.length : Int)) = true := decide_eq_true (by omega)
    have t1' : decide (256 < l.length) = true := decide_eq_true h1
    clear hr
    go_enter Tryz.func58, Tryz.ntmps58
    go_wp2_with fail
    go_ret2
    exact PEF_nil 3 _ He.out _
  by_cases h2 : i < 0 ∨ (l.length : Int) ≤ i
  · have He : Hid (pathE l i = ([], 4)) := by unfold Hid pathE; rw [if_neg h1, if_pos h2]
    clear hr
    rcases h2 with h2 | h2
    all_goals
      go_enter Tryz.func58, Tryz.ntmps58
      go_wp2_with fail
      all_goals
        go_ret2
        exact PEF_nil 4 _ He.out _
  · obtain ⟨k, rfl⟩ := Int.eq_ofNat_of_zero_le (show 0 ≤ i by omega)
    have He : Hid (pathE l (k : Int) = (path l k, 0)) := by unfold Hid pathE; rw [if_neg h1, if_neg h2, Int.toNat_natCast]
    have HP := Lib.hid (ppath_ind _ l A c k w (Nat.le_refl _) (by omega) (by omega) hl hlc hcm hr)
    clear hr
    go_enter Tryz.func58, Tryz.ntmps58
    go_wp2_with fail
    refine HP.out.mono ?_
    rintro e w1 ⟨v, rfl, hown, hb1⟩
    obtain ⟨A1, c1, rfl, q1, q2, q3, q4⟩ := own_digs hown
    clear HP hown
    go_wp2_with fail
    go_ret2
    rw [He.out]
    exact ⟨A1, c1, rfl, q1, q2, q3, hb1, fun a ha => (q4 a ha).1⟩
/-- The same, with paths that were made anew. -/
def PvF (r : Pv × Int) (w : World) (e : Ending) (w' : World) : Prop := ∃ A ca B cb, e = .returned (.tuple #[.agg #[.int .i64 r.1.ix, .int .i64 r.1.pl, .slice A r.1.pa.length ca, .slice B r.1.sp.length cb], .int .i64 r.2]) ∧ r.1.pa.length ≤ ca ∧ ca ≤ maxLen ∧ RdD w' A r.1.pa ∧ r.1.sp.length ≤ cb ∧ cb ≤ maxLen ∧ RdD w' B r.1.sp ∧ Below w.heap.size w w' ∧ (∀ a, A = some a → w.heap.size ≤ a.block) ∧ (∀ a, B = some a → w.heap.size ≤ a.block)
set_option maxHeartbeats 8000000 in
theorem proveF_any (l : List Le) (A : Option Addr) (c : Nat) (id : Int) (w : World) (hid : I64 id) (hr : RdL w A l) (h64 : ∀ x, x ∈ l → Le64 x) : Calls Tryz.prog 13 #[.slice A l.length c, .int .i64 id] w (PvF (prv l id) w) := by
  have hr1 := (hr.alloc (.cells #[.int .i64 id] 3)).alloc (.cells #[.int .i64 0, .int .i64 0, .slice none 0 0, .slice none 0 0] 49)
  have HR := Lib.hid (read_any l A c _ hr1 h64)
  have HR1 := Lib.hid hr1
  have hI : Bk ((w.alloc (.cells #[.int .i64 id] 3)).alloc (.cells #[.int .i64 0, .int .i64 0, .slice none 0 0, .slice none 0 0] 49)) w.heap.size 3 #[.int .i64 id] := (Mw.Bk.new _ _ _).alloc _
  have hZ : Bk ((w.alloc (.cells #[.int .i64 id] 3)).alloc (.cells #[.int .i64 0, .int .i64 0, .slice none 0 0, .slice none 0 0] 49)) (w.heap.size + 1) 49 #[.int .i64 0, .int .i64 0, .slice none 0 0, .slice none 0 0] := Mw.Bk.new' (by simp)
  have hb0 : Below w.heap.size w ((w.alloc (.cells #[.int .i64 id] 3)).alloc (.cells #[.int .i64 0, .int .i64 0, .slice none 0 0, .slice none 0 0] 49)) := by (repeat (first | with_reducible exact Below.refl _ _ | with_reducible refine bl_drewN ?_ _ | with_reducible refine Below.drew ?_ | with_reducible refine bl_alloc ?_ _ | with_reducible refine Below.alloc ?_ (by first | omega | (simp; done) | (simp; omega)) _ | with_reducible refine Below.setCell ?_ (by first | omega | (simp; done) | (simp; omega)) _ | with_reducible assumption))
  clear hr hr1 h64
  by_cases hz : chk l = 0
  · have z0 : (chk l != 0) = false := by rw [hz]; rfl
    have hV := V_chk hz
    have I := inv_of hV
    have hle := I.len
    have hlc := len_curN l l.length
    have hcl : (cur l).length ≤ 256 := by unfold cur; omega
    have HZ := Lib.hid hz
    have HI := Lib.hid I
    have HV := Lib.hid hV
    have HS : Hid (prv l id = if (fnd l id).isSome = true then (if gon l id = true then (pv0, 46) else (pvo l id, 0)) else (pv0, 4)) := if_pos hz
    clear hz hV hlc I
    go_enter Tryz.func13, Tryz.ntmps13
    go_wp2_with fail
    refine HR.out.mono ?_
    rintro e w1 ⟨v, rfl, hb1, hx⟩
    obtain ⟨g, b1, b2, b3, rfl, hM, -⟩ := hx HZ.out
    have hZ1 := hZ.old hb1
    have hI1 := hI.old hb1
    have hb2 := bl_trans hb0 hb1
    have hr2 := HR1.out.old hb1
    clear hx hb0 hb1 hZ hI HR
    obtain ⟨c0, c1, c2, c3, c4⟩ := hM.at
    have hgl := hM.lt.1
    have i0 := hI1.cell 0
    have il := hI1.lt
    have q1 : ∀ y, (Instr.lookup 94 (.map (some b1)) (.int .i64 id) true).run Tryz.prog (Mm.ext w1 y) = _ := fun y => (hM.old (Mm.ext_below _ y)).own (id := id) hid
    cases hf : (fnd l id).isSome
    · rw [hf] at q1 HS
      have HS2 : Hid (prv l id = (pv0, 4)) := HS.out.trans (if_neg (by simp))
      clear HS hf
      go_wp2_with fail
      refine Mm.region_ext (by kernel_rfl) (by kernel_rfl) ?_; (repeat (first | go_big_quiet_step (fail) | quiet_step (fail))); refine wpQuiet_nil ?_
      intro w2 hb3
      have hZ2 := hZ1.old hb3
      have hb4 := bl_trans hb2 hb3
      clear q1 hM c0 c1 c2 c3 c4 hgl i0 il hZ1 hb2 hb3 hr2 hI1
      have yf := fun o => hZ2.frozen o
      have y0 := hZ2.cell 0
      have y1 := hZ2.cell 1
      have y2 := hZ2.cell 2
      have y3 := hZ2.cell 3
      have yl := hZ2.lt
      go_wp2_with fail
      clear yf y0 y1 y2 y3 yl
      have hBz := (Mw.Bk.set (Mw.Bk.set (Mw.Bk.set (Mw.Bk.set hZ2 0 (.int .i64 0)) 1 (.int .i64 0)) 2 (.slice none 0 0)) 3 (.slice none 0 0))
      simp only [List.setIfInBounds_toArray, List.set_cons_zero, List.set_cons_succ] at hBz
      have hbz : Below w.heap.size w ((((w2.setCell ⟨w.heap.size + 1, 0, none⟩ (.int .i64 0)).setCell ⟨w.heap.size + 1, 1, none⟩ (.int .i64 0)).setCell ⟨w.heap.size + 1, 2, none⟩ (.slice none 0 0)).setCell ⟨w.heap.size + 1, 3, none⟩ (.slice none 0 0)) := by (repeat (first | with_reducible exact Below.refl _ _ | with_reducible refine bl_drewN ?_ _ | with_reducible refine Below.drew ?_ | with_reducible refine bl_alloc ?_ _ | with_reducible refine Below.alloc ?_ (by first | omega | (simp; done) | (simp; omega)) _ | with_reducible refine Below.setCell ?_ (by first | omega | (simp; done) | (simp; omega)) _ | with_reducible assumption))
      generalize ((((w2.setCell ⟨w.heap.size + 1, 0, none⟩ (.int .i64 0)).setCell ⟨w.heap.size + 1, 1, none⟩ (.int .i64 0)).setCell ⟨w.heap.size + 1, 2, none⟩ (.slice none 0 0)).setCell ⟨w.heap.size + 1, 3, none⟩ (.slice none 0 0)) = wz at *
      have k0 := hBz.cell 0
      have k1 := hBz.cell 1
      have k2 := hBz.cell 2
      have k3 := hBz.cell 3
      refine bodyPost_ret (v := .tuple #[.agg #[.int .i64 0, .int .i64 0, .slice none 0 0, .slice none 0 0], .int .i64 (4)]) (by simp [results, Tryz.results13, go_sem, k0, k1, k2, k3]) rfl ⟨none, 0, none, 0, by rw [HS2.out] <;> rfl, by rw [HS2.out] <;> exact Nat.le_refl _, by simp [maxLen], by rw [HS2.out] <;> exact RdD.nil _ _, by rw [HS2.out] <;> exact Nat.le_refl _, by simp [maxLen], by rw [HS2.out] <;> exact RdD.nil _ _, hbz, fun a ha => (by cases ha), fun a ha => (by cases ha)⟩
    rw [hf] at q1 HS
    have HS2 := Lib.hid (HS.out.trans (if_pos rfl))
    clear HS
    go_wp2_with fail
    refine Mm.region_ext (by kernel_rfl) (by kernel_rfl) ?_; (repeat (first | go_big_quiet_step (fail) | quiet_step (fail))); refine wpQuiet_nil ?_
    intro w2 hb3
    have hZ2 := hZ1.old hb3
    have hI2 := hI1.old hb3
    have hM2 := hM.old hb3
    have hr3 := hr2.old hb3
    have hb4 := bl_trans hb2 hb3
    clear q1 hM c0 c1 c2 c3 c4 hgl i0 il hZ1 hI1 hb2 hb3 hr2
    obtain ⟨c0, c1, c2, c3, c4⟩ := hM2.at
    have hgl := hM2.lt.1
    have i0 := hI2.cell 0
    have il := hI2.lt
    have q2 : (Instr.lookup 95 (.map (some b2)) (.int .i64 id) true).run Tryz.prog w2.drew = _ := hM2.drew.cur (id := id) hid
    have q3 : (Instr.lookup 95 (.map (some b2)) (.int .i64 id) true).run Tryz.prog (w2.alloc (.cells #[.int .i64 0, .int .i64 0, .int .i64 0, .int .i64 0, .int .i64 0] 46)).drew = _ := (hM2.alloc _).drew.cur (id := id) hid
    rw [hf] at q2 q3
    generalize (if gon l id then (default : Cf) else (fnd l id).getD default) = cq at q2 q3
    go_wp2_with fail
    go_region
    all_goals
      have hM3 := (hM2.alloc (.cells #[.int .i64 cq.i, .int .i64 cq.c, .int .i64 cq.g, .int .i64 cq.t, .int .i64 cq.r] 46)).drew
      have hI3 := (hI2.alloc (.cells #[.int .i64 cq.i, .int .i64 cq.c, .int .i64 cq.g, .int .i64 cq.t, .int .i64 cq.r] 46)).drew
      have hZ3 := (hZ2.alloc (.cells #[.int .i64 cq.i, .int .i64 cq.c, .int .i64 cq.g, .int .i64 cq.t, .int .i64 cq.r] 46)).drew
      have hr4 := (hr3.alloc (.cells #[.int .i64 cq.i, .int .i64 cq.c, .int .i64 cq.g, .int .i64 cq.t, .int .i64 cq.r] 46)).drew
      have hb5 := (Mw.bl_alloc hb4 (.cells #[.int .i64 cq.i, .int .i64 cq.c, .int .i64 cq.g, .int .i64 cq.t, .int .i64 cq.r] 46)).drew
      clear q2 q3 c0 c1 c2 c3 c4 hgl i0 il hM2 hI2 hZ2 hr3 hb4
      generalize (w2.alloc (.cells #[.int .i64 cq.i, .int .i64 cq.c, .int .i64 cq.g, .int .i64 cq.t, .int .i64 cq.r] 46)).drew = w3 at *
      cases hg : gon l id
      · rw [hg] at HS2
        have HS3 : Hid (prv l id = (pvo l id, 0)) := HS2.out.trans (if_neg (by simp))
        have HG := Lib.hid hg
        have HF := Lib.hid hf
        clear HS2 hg hf
        go_wp2_with fail
        refine (certs_any l g b1 b2 b3 w3 hM3 HV.out).mono ?_
        rintro e w4 ⟨v, rfl, hown, hb6⟩
        obtain ⟨B, cB, rfl, hcB, hrB, -⟩ := own_rows cfl_len (by omega) hown
        have hI4 := hI3.old hb6
        have hZ4 := hZ3.old hb6
        have hr5 := hr4.old hb6
        have hb7 := bl_trans hb5 hb6
        clear hM3 hI3 hZ3 hr4 hb5 hb6 hown
        obtain ⟨ca, hca⟩ := Option.isSome_iff_exists.1 HF.out
        obtain ⟨xe, hxe, hxk, hxf⟩ := fnd_mem hca
        have hxi := fnd_id hca
        have hX := fix_in (p := fun x => is1 x id) (l := l) (n := 0) ⟨xe, hxe, decide_eq_true ⟨hxk, by rw [hxf]; exact hxi⟩⟩
        have hY := fix_in (p := fun x => decide (x.i = id)) (l := cur l) (n := 0) ⟨ca, (mem_cur HV.out).2 (cu_some.2 ⟨by rw [hxi]; exact hca, by rw [hxi]; exact HG.out⟩), decide_eq_true hxi⟩
        have HPO : Hid (pvo l id = ⟨fix (fun x => is1 x id) l 0, fix (fun x => decide (x.i = id)) (cur l) 0, (pathE (l.map dgE) (fix (fun x => is1 x id) l 0)).1, (pathE ((cur l).map dgC) (fix (fun x => decide (x.i = id)) (cur l) 0)).1⟩) := rfl
        have HIL := Lib.hid (show ∀ W : World, Below w4.heap.size w4 W → _ from fun W hb => indexL_any l A c id w.heap.size W (hr5.old hb) ((hI4.old hb).cell 0) (hI4.old hb).lt (by omega))
        have HIC := Lib.hid (show ∀ W : World, Below w4.heap.size w4 W → _ from fun W hb => indexC_any (cur l) B cB id w.heap.size W (hrB.old hb) ((hI4.old hb).cell 0) (hI4.old hb).lt (by omega))
        have HD1 := Lib.hid (show ∀ W : World, Below w4.heap.size w4 W → _ from fun W hb => digestsL_any l A c W (by omega) (hr5.old hb))
        have HD2 := Lib.hid (show ∀ W : World, Below w4.heap.size w4 W → _ from fun W hb => digestsC_any (cur l) B cB W (by omega) (hrB.old hb))
        clear hr5 hrB hca hxe hxk hxf hxi
        generalize hXX : fix (fun x => is1 x id) l 0 = X at hX HPO HIL
        generalize hYY : fix (fun x => decide (x.i = id)) (cur l) 0 = Y at hY HPO HIC
        clear hXX hYY
        have hdl : (l.map dgE).length = l.length := List.length_map ..
        have hel : ((cur l).map dgC).length = (cur l).length := List.length_map ..
        generalize l.map dgE = ds at hdl HPO HD1
        generalize (cur l).map dgC = es at hel HPO HD2
        have hp1 := pathE_ok ds X (by omega) (by omega) (by omega)
        have hp2 := pathE_ok es Y (by omega) (by omega) (by omega)
        have HP1 : Hid (∀ (W : World) (D : Option Addr) (cD : Nat), ds.length ≤ cD → cD ≤ maxLen → RdD W D ds → Calls Tryz.prog 58 #[.slice D ds.length cD, .int .i64 X] W (PEF (pathE ds X) W)) := fun W D cD h1 h2 h3 => ppathF_any ds D cD X W (by omega) h1 h2 h3
        have HP2 : Hid (∀ (W : World) (D : Option Addr) (cD : Nat), es.length ≤ cD → cD ≤ maxLen → RdD W D es → Calls Tryz.prog 58 #[.slice D es.length cD, .int .i64 Y] W (PEF (pathE es Y) W)) := fun W D cD h1 h2 h3 => ppathF_any es D cD Y W (by omega) h1 h2 h3
        generalize pathE ds X = PP at hp1 HP1 HPO
        generalize pathE es Y = QQ at hp2 HP2 HPO
        obtain ⟨PA, pe⟩ := PP
        obtain ⟨QA, qe⟩ := QQ
        obtain rfl : pe = 0 := hp1
        obtain rfl : qe = 0 := hp2
        clear hX hY hdl hel hcl hle
        have hI5 := hI4.alloc (.cells #[.int .i64 0, .int .i64 0, .slice none 0 0, .slice none 0 0] 49)
        have i0 := hI4.cell 0
        have il := hI4.lt
        go_wp2_with fail
        refine (HIL.out _ (Mw.bl_alloc (Below.refl _ _) _)).mono ?_
        rintro e w5 ⟨rfl, hb8⟩
        have hbA : Below w4.heap.size w4 w5 := bl_trans (Mw.bl_alloc (Below.refl _ _) _) hb8
        have hN0 : Bk w5 w4.heap.size 49 #[.int .i64 0, .int .i64 0, .slice none 0 0, .slice none 0 0] := (Mw.Bk.new _ _ _).old hb8
        have hZ5 := hZ4.old hbA
        have hlt4 : w.heap.size + 1 < w4.heap.size := hZ4.lt
        have nf := fun o => hN0.frozen o
        have n0 := hN0.cell 0
        have nl := hN0.lt
        have hN1 := hN0.set 0 (.int .i64 X)
        have hZ6 := hZ5.far (p := ⟨w4.heap.size, 0, none⟩) (Nat.ne_of_lt hlt4) (.int .i64 X)
        have hbB := hbA.setCell (p := ⟨w4.heap.size, 0, none⟩) (Nat.le_refl _) (.int .i64 X)
        clear hI4 hI5 i0 il hb8 hbA hN0 hZ4 hZ5
        go_wp2_with fail
        clear nf n0 nl
        refine (HIC.out _ hbB).mono ?_
        rintro e w6 ⟨rfl, hb9⟩
        have hbC : Below w4.heap.size w4 w6 := bl_trans hbB hb9
        have hN2 := hN1.old hb9
        have hZ7 := hZ6.old hb9
        have nf := fun o => hN2.frozen o
        have n0 := hN2.cell 1
        have nl := hN2.lt
        have hN3 := hN2.set 1 (.int .i64 Y)
        simp only [List.setIfInBounds_toArray, List.set_cons_zero, List.set_cons_succ] at hN3
        have hZ8 := hZ7.far (p := ⟨w4.heap.size, 1, none⟩) (Nat.ne_of_lt hlt4) (.int .i64 Y)
        have hbD := hbC.setCell (p := ⟨w4.heap.size, 1, none⟩) (Nat.le_refl _) (.int .i64 Y)
        clear hb9 hbB hbC hN1 hN2 hZ6 hZ7 HIL HIC
        go_wp2_with fail
        clear nf n0 nl
        have hbE := bl_trans hb7 hbD
        generalize w6.setCell ⟨w4.heap.size, 1, none⟩ (.int .i64 Y) = w7 at *
        have hN := hN3
        have n0 := hN.cell 0
        have n1 := hN.cell 1
        have nl := hN.lt
        have HDa : Hid (∀ W : World, Below w7.heap.size w7 W → Calls Tryz.prog 50 #[.slice A l.length c, .func (.func 31) #[] #[]] W (DE ds W)) := fun W hb => HD1.out W (bl_trans hbD hb)
        clear hN3
        go_wp2_with fail
        go_region_law (first
          | (go_simp
             go_at_call 50
             refine (HDa.out _ (by first | exact Below.refl _ _ | exact (Below.refl _ _).drew)).mono ?_
             rintro e w8 ⟨D, cD, rfl, hcD, hmD, hrD, hba⟩
             have hNa : Bk _ w4.heap.size 49 _ := (by first | exact hN.old hba | exact hN.drew.old hba)
             have n0 := hNa.cell 0
             have n1 := hNa.cell 1
             have nl := hNa.lt)
          | (go_simp
             go_at_call 58
             refine (HP1.out _ D cD hcD hmD (by first | exact hrD | exact hrD.drew)).mono ?_
             rintro e w9 ⟨E, cE, rfl, hcE, hmE, hrE, hbb, hfE⟩
             have hNb : Bk _ w4.heap.size 49 _ := (by first | exact hNa.old hbb | exact hNa.drew.old hbb)
             have nf := fun o => hNb.frozen o
             have m2 := hNb.cell 2
             have ml := hNb.lt))
        all_goals
          have HFE : Hid (∀ a, E = some a → w.heap.size ≤ a.block) := fun a ha => Nat.le_trans (bl_trans hbE ⟨hba.os, hba.tape, hba.output, hba.size, hba.block⟩ : Below w.heap.size w w8).size (hfE a ha)
          clear hfE
          have hbab : Below w7.heap.size w7 w8 := ⟨hba.os, hba.tape, hba.output, hba.size, hba.block⟩
          have hZ9 := (hZ8.old hbab).old hbb
          have hbF := bl_trans (bl_trans hbE hbab) hbb
          have hbG := bl_trans (bl_trans hbD hbab) hbb
          have hrP : RdD w9 E PA := hrE
          have hcP : PA.length ≤ cE := hcE
          have hN4 := hNb.set 2 (.slice E PA.length cE)
          simp only [List.setIfInBounds_toArray, List.set_cons_zero, List.set_cons_succ] at hN4
          have hZ10 := hZ9.far (p := ⟨w4.heap.size, 2, none⟩) (Nat.ne_of_lt hlt4) (.slice E PA.length cE)
          have hrP2 := rdd_pf hNb (nou _ _ _ _ _ _ _ _) hrP 2 (.slice E PA.length cE)
          have hbH := hbF.setCell (p := ⟨w4.heap.size, 2, none⟩) (show w.heap.size ≤ w4.heap.size by omega) (.slice E PA.length cE)
          have hbI := hbG.setCell (p := ⟨w4.heap.size, 2, none⟩) (Nat.le_refl _) (.slice E PA.length cE)
          clear hba hbb hbab hbD hbE hbF hbG hrE hcE hrP hNb hNa hN hZ8 hZ9 nf m2 ml n0 n1 nl HDa HP1 hcD hmD hrD
          generalize w9.setCell ⟨w4.heap.size, 2, none⟩ (.slice E PA.length cE) = wa at *
          have hN := hN4
          have n0 := hN.cell 0
          have n1 := hN.cell 1
          have nl := hN.lt
          have HDb : Hid (∀ W : World, Below wa.heap.size wa W → Calls Tryz.prog 51 #[.slice B (cur l).length cB, .func (.func 21) #[] #[]] W (DE es W)) := fun W hb => HD2.out W (bl_trans hbI hb)
          clear hN4 HD1 HD2
          go_wp2_with fail
          go_region_law (first
            | (go_simp
               go_at_call 51
               refine (HDb.out _ (by first | exact Below.refl _ _ | exact (Below.refl _ _).drew)).mono ?_
               rintro e wb ⟨G, cG, rfl, hcG, hmG, hrG, hba⟩
               have hNa : Bk _ w4.heap.size 49 _ := (by first | exact hN.old hba | exact hN.drew.old hba)
               have n0 := hNa.cell 0
               have n1 := hNa.cell 1
               have nl := hNa.lt)
            | (go_simp
               go_at_call 58
               refine (HP2.out _ G cG hcG hmG (by first | exact hrG | exact hrG.drew)).mono ?_
               rintro e wc ⟨F, cF, rfl, hcF, hmF, hrF, hbb, hfF⟩
               have hNb : Bk _ w4.heap.size 49 _ := (by first | exact hNa.old hbb | exact hNa.drew.old hbb)
               have nf := fun o => hNb.frozen o
               have m2 := hNb.cell 3
               have ml := hNb.lt))
          all_goals
            have HFF : Hid (∀ a, F = some a → w.heap.size ≤ a.block) := fun a ha => Nat.le_trans (bl_trans hbH ⟨hba.os, hba.tape, hba.output, hba.size, hba.block⟩ : Below w.heap.size w wb).size (hfF a ha)
            clear hfF
            have hbab : Below wa.heap.size wa wb := ⟨hba.os, hba.tape, hba.output, hba.size, hba.block⟩
            have hZ11 := (hZ10.old hbab).old hbb
            have hrP3 := (hrP2.old hbab).old hbb
            have hbF := bl_trans (bl_trans hbH hbab) hbb
            have hrQ : RdD wc F QA := hrF
            have hcQ : QA.length ≤ cF := hcF
            have hN4 := hNb.set 3 (.slice F QA.length cF)
            simp only [List.setIfInBounds_toArray, List.set_cons_zero, List.set_cons_succ] at hN4
            have hZ12 := hZ11.far (p := ⟨w4.heap.size, 3, none⟩) (Nat.ne_of_lt hlt4) (.slice F QA.length cF)
            have hrP4 := rdd_pf hNb (nou _ _ _ _ _ _ _ _) hrP3 3 (.slice F QA.length cF)
            have hrQ2 := rdd_pf hNb (nou _ _ _ _ _ _ _ _) hrQ 3 (.slice F QA.length cF)
            have hbJ := hbF.setCell (p := ⟨w4.heap.size, 3, none⟩) (show w.heap.size ≤ w4.heap.size by omega) (.slice F QA.length cF)
            clear hba hbb hbab hbH hbI hbF hrF hcF hrQ hrP2 hrP3 hNb hNa hN hZ10 hZ11 nf m2 ml n0 n1 nl HDb HP2 hcG hmG hrG
            generalize wc.setCell ⟨w4.heap.size, 3, none⟩ (.slice F QA.length cF) = wd at *
            have n0 := hN4.cell 0
            have n1 := hN4.cell 1
            have n2 := hN4.cell 2
            have n3 := hN4.cell 3
            have nl := hN4.lt
            have yf := fun o => hZ12.frozen o
            have y0 := hZ12.cell 0
            have y1 := hZ12.cell 1
            have y2 := hZ12.cell 2
            have y3 := hZ12.cell 3
            have yl := hZ12.lt
            go_wp2_with fail
            clear yf y0 y1 y2 y3 yl n0 n1 n2 n3 nl
            have hBz := (Mw.Bk.set (Mw.Bk.set (Mw.Bk.set (Mw.Bk.set hZ12 0 (.int .i64 X)) 1 (.int .i64 Y)) 2 (.slice E PA.length cE)) 3 (.slice F QA.length cF))
            simp only [List.setIfInBounds_toArray, List.set_cons_zero, List.set_cons_succ] at hBz
            have hbz : Below w.heap.size w ((((wd.setCell ⟨w.heap.size + 1, 0, none⟩ (.int .i64 X)).setCell ⟨w.heap.size + 1, 1, none⟩ (.int .i64 Y)).setCell ⟨w.heap.size + 1, 2, none⟩ (.slice E PA.length cE)).setCell ⟨w.heap.size + 1, 3, none⟩ (.slice F QA.length cF)) := by (repeat (first | with_reducible exact Below.refl _ _ | with_reducible refine bl_drewN ?_ _ | with_reducible refine Below.drew ?_ | with_reducible refine bl_alloc ?_ _ | with_reducible refine Below.alloc ?_ (by first | omega | (simp; done) | (simp; omega)) _ | with_reducible refine Below.setCell ?_ (by first | omega | (simp; done) | (simp; omega)) _ | with_reducible assumption))
            have hrPz := rdd_pf4 (a' := X) (b' := Y) (A' := E) (n' := PA.length) (c' := cE) (B' := F) (m' := QA.length) (d' := cF) hZ12 hrP4
            have hrQz := rdd_pf4 (a' := X) (b' := Y) (A' := E) (n' := PA.length) (c' := cE) (B' := F) (m' := QA.length) (d' := cF) hZ12 hrQ2
            clear hZ12 hrP4 hrQ2 hbJ hN4
            generalize ((((wd.setCell ⟨w.heap.size + 1, 0, none⟩ (.int .i64 X)).setCell ⟨w.heap.size + 1, 1, none⟩ (.int .i64 Y)).setCell ⟨w.heap.size + 1, 2, none⟩ (.slice E PA.length cE)).setCell ⟨w.heap.size + 1, 3, none⟩ (.slice F QA.length cF)) = wz at *
            have k0 := hBz.cell 0
            have k1 := hBz.cell 1
            have k2 := hBz.cell 2
            have k3 := hBz.cell 3
            refine bodyPost_ret (v := .tuple #[.agg #[.int .i64 X, .int .i64 Y, .slice E PA.length cE, .slice F QA.length cF], .int .i64 0]) (by simp [results, Tryz.results13, go_sem, k0, k1, k2, k3]) rfl ?_
            rw [HS3.out, HPO.out]
            exact ⟨E, cE, F, cF, rfl, hcP, hmE, hrPz, hcQ, hmF, hrQz, hbz, HFE.out, HFF.out⟩
      · rw [hg] at HS2
        have HS3 : Hid (prv l id = (pv0, 46)) := HS2.out.trans (if_pos rfl)
        clear HS2 hg hM3 hI3 hr4
        have yf := fun o => hZ3.frozen o
        have y0 := hZ3.cell 0
        have y1 := hZ3.cell 1
        have y2 := hZ3.cell 2
        have y3 := hZ3.cell 3
        have yl := hZ3.lt
        go_wp2_with fail
        clear yf y0 y1 y2 y3 yl
        have hBz := (Mw.Bk.set (Mw.Bk.set (Mw.Bk.set (Mw.Bk.set hZ3 0 (.int .i64 0)) 1 (.int .i64 0)) 2 (.slice none 0 0)) 3 (.slice none 0 0))
        simp only [List.setIfInBounds_toArray, List.set_cons_zero, List.set_cons_succ] at hBz
        have hbz : Below w.heap.size w ((((w3.setCell ⟨w.heap.size + 1, 0, none⟩ (.int .i64 0)).setCell ⟨w.heap.size + 1, 1, none⟩ (.int .i64 0)).setCell ⟨w.heap.size + 1, 2, none⟩ (.slice none 0 0)).setCell ⟨w.heap.size + 1, 3, none⟩ (.slice none 0 0)) := by (repeat (first | with_reducible exact Below.refl _ _ | with_reducible refine bl_drewN ?_ _ | with_reducible refine Below.drew ?_ | with_reducible refine bl_alloc ?_ _ | with_reducible refine Below.alloc ?_ (by first | omega | (simp; done) | (simp; omega)) _ | with_reducible refine Below.setCell ?_ (by first | omega | (simp; done) | (simp; omega)) _ | with_reducible assumption))
        generalize ((((w3.setCell ⟨w.heap.size + 1, 0, none⟩ (.int .i64 0)).setCell ⟨w.heap.size + 1, 1, none⟩ (.int .i64 0)).setCell ⟨w.heap.size + 1, 2, none⟩ (.slice none 0 0)).setCell ⟨w.heap.size + 1, 3, none⟩ (.slice none 0 0)) = wz at *
        have k0 := hBz.cell 0
        have k1 := hBz.cell 1
        have k2 := hBz.cell 2
        have k3 := hBz.cell 3
        refine bodyPost_ret (v := .tuple #[.agg #[.int .i64 0, .int .i64 0, .slice none 0 0, .slice none 0 0], .int .i64 (46)]) (by simp [results, Tryz.results13, go_sem, k0, k1, k2, k3]) rfl ⟨none, 0, none, 0, by rw [HS3.out] <;> rfl, by rw [HS3.out] <;> exact Nat.le_refl _, by simp [maxLen], by rw [HS3.out] <;> exact RdD.nil _ _, by rw [HS3.out] <;> exact Nat.le_refl _, by simp [maxLen], by rw [HS3.out] <;> exact RdD.nil _ _, hbz, fun a ha => (by cases ha), fun a ha => (by cases ha)⟩
  · have z0 : (chk l != 0) = true := bne_iff_ne.2 hz
    have HS : Hid (prv l id = (pv0, chk l)) := if_neg hz
    clear hz
    go_enter Tryz.func13, Tryz.ntmps13
    go_wp2_with fail
    refine HR.out.mono ?_
    rintro e w2 ⟨v, rfl, hb1, -⟩
    have hZ2 := hZ.old hb1
    have hb2 := bl_trans hb0 hb1
    clear hb0 hb1 hZ hI HR
    have yf := fun o => hZ2.frozen o
    have y0 := hZ2.cell 0
    have y1 := hZ2.cell 1
    have y2 := hZ2.cell 2
    have y3 := hZ2.cell 3
    have yl := hZ2.lt
    go_wp2_with fail
    clear yf y0 y1 y2 y3 yl
    have hBz := (Mw.Bk.set (Mw.Bk.set (Mw.Bk.set (Mw.Bk.set hZ2 0 (.int .i64 0)) 1 (.int .i64 0)) 2 (.slice none 0 0)) 3 (.slice none 0 0))
    simp only [List.setIfInBounds_toArray, List.set_cons_zero, List.set_cons_succ] at hBz
    have hbz : Below w.heap.size w ((((w2.setCell ⟨w.heap.size + 1, 0, none⟩ (.int .i64 0)).setCell ⟨w.heap.size + 1, 1, none⟩ (.int .i64 0)).setCell ⟨w.heap.size + 1, 2, none⟩ (.slice none 0 0)).setCell ⟨w.heap.size + 1, 3, none⟩ (.slice none 0 0)) := by (repeat (first | with_reducible exact Below.refl _ _ | with_reducible refine bl_drewN ?_ _ | with_reducible refine Below.drew ?_ | with_reducible refine bl_alloc ?_ _ | with_reducible refine Below.alloc ?_ (by first | omega | (simp; done) | (simp; omega)) _ | with_reducible refine Below.setCell ?_ (by first | omega | (simp; done) | (simp; omega)) _ | with_reducible assumption))
    generalize ((((w2.setCell ⟨w.heap.size + 1, 0, none⟩ (.int .i64 0)).setCell ⟨w.heap.size + 1, 1, none⟩ (.int .i64 0)).setCell ⟨w.heap.size + 1, 2, none⟩ (.slice none 0 0)).setCell ⟨w.heap.size + 1, 3, none⟩ (.slice none 0 0)) = wz at *
    have k0 := hBz.cell 0
    have k1 := hBz.cell 1
    have k2 := hBz.cell 2
    have k3 := hBz.cell 3
    refine bodyPost_ret (v := .tuple #[.agg #[.int .i64 0, .int .i64 0, .slice none 0 0, .slice none 0 0], .int .i64 (chk l)]) (by simp [results, Tryz.results13, go_sem, k0, k1, k2, k3]) rfl ⟨none, 0, none, 0, by rw [HS.out] <;> rfl, by rw [HS.out] <;> exact Nat.le_refl _, by simp [maxLen], by rw [HS.out] <;> exact RdD.nil _ _, by rw [HS.out] <;> exact Nat.le_refl _, by simp [maxLen], by rw [HS.out] <;> exact RdD.nil _ _, hbz, fun a ha => (by cases ha), fun a ha => (by cases ha)⟩
theorem prove_any (l : List Le) (A : Option Addr) (c : Nat) (id : Int) (w : World) (hid : I64 id) (hr : RdL w A l) (h64 : ∀ x, x ∈ l → Le64 x) : Calls Tryz.prog 13 #[.slice A l.length c, .int .i64 id] w (PvE (prv l id) w) :=
  (proveF_any l A c id w hid hr h64).mono fun e w' ⟨A, ca, B, cb, h1, h2, h3, h4, h5, h6, h7, h8, _, _⟩ => ⟨A, ca, B, cb, h1, h2, h3, h4, h5, h6, h7, h8⟩
end Go.Proofs.YtdikoffppjoomaaGreat.Ct
