/- Walks: Closed of the program. -/
import Derived.Test.YtokddjohdodkmaaHE
import Derived.WalkKit
import Derived.WalkSpells
import Derived.WalkLawsBesides
import Derived.Deep.QuietTactic
import Derived.BigQuiet
import Derived.Deep.Draws
import Derived.Deep.AppendLies
import Derived.Laws.OwnMore
import Derived.Laws.BytesArg
import Derived.Lib.Hide
import Derived.Deep.LoopGhost
import Derived.Deep.CutBlock
import Derived.Laws.MakeOwn
import Derived.RegionTactic
namespace Go.Proofs.Ytokddjohdodkmaa.Tm
open Go.RowKit Go.Proofs.Ytokddjohdodkmaa.Mw
open Go.Proofs.Ytokddjohdodkmaa.Mm (RC)
set_option linter.unusedVariables false
set_option linter.unusedSimpArgs false

/-- The ending is a list of numbers and an error; the list lies in new memory, none of it frozen. -/
def RetIE (r : List Int × Int) (w : World) (e : Ending) (w' : World) : Prop := ∃ A c, e = .returned (.tuple #[.slice A r.1.length c, .int .i64 r.2]) ∧ RdI w' .i64 A r.1 ∧ (∀ a, A = some a → w.heap.size ≤ a.block ∧ a.block < w'.heap.size) ∧ (∀ a, A = some a → ∀ o, w'.frozen? ⟨a.block, o, none⟩ = false) ∧ Below w.heap.size w w'
theorem ret_nil (n : Int) {w w' : World} (hb : Below w.heap.size w w') {r : List Int × Int} (hr : r = ([], n)) : RetIE r w (.returned (.tuple #[.slice none 0 0, .int .i64 n])) w' := by
  subst hr
  exact ⟨none, 0, rfl, RdI.nil _ _ _, fun a ha => (by cases ha), fun a ha => (by cases ha), hb⟩
/-- The marks so far, and noughts. -/
def mz (p : Pa) (s : Sc) (an : List Int) (n j : Nat) : List Int := mks p s an j ++ List.replicate (n - j) 0
theorem mz_len (p : Pa) (s : Sc) (an : List Int) (n j : Nat) (h : j ≤ n) : (mz p s an n j).length = n := by unfold mz; simp [mks_len]; omega
theorem mz_end (p : Pa) (s : Sc) (an : List Int) (n : Nat) : mz p s an n n = mks p s an n := by unfold mz; simp
theorem mz_set (p : Pa) (s : Sc) (an : List Int) (n j : Nat) (h : j < n) : (mz p s an n j).set j (mk1 (gp p.l j) (gk s.ks j).l (gi an j)) = mz p s an n (j + 1) := by
  unfold mz
  obtain ⟨m, hm⟩ : ∃ m, n - j = m + 1 := ⟨n - j - 1, by omega⟩
  rw [hm, List.replicate_succ, mks]
  have hl := mks_len p s an j
  rw [List.set_append_right _ _ (by omega), hl, Nat.sub_self, List.set_cons_zero, show n - (j + 1) = m by omega]
  simp
theorem mz_no (p : Pa) (s : Sc) (an : List Int) (n j : Nat) (h : j < n) (h0 : mk1 (gp p.l j) (gk s.ks j).l (gi an j) = 0) : mz p s an n (j + 1) = mz p s an n j := by
  unfold mz
  obtain ⟨m, hm⟩ : ∃ m, n - j = m + 1 := ⟨n - j - 1, by omega⟩
  rw [hm, List.replicate_succ, mks, h0, show n - (j + 1) = m by omega]
  simp
theorem bk_ints {w : World} {g : Nat} {T : TypeId} {l : List Int} (h : Bk w g T (l.map (Value.int .i64)).toArray) (j : Nat) (v : Int) : Bk (w.setCell ⟨g, j, none⟩ (.int .i64 v)) g T ((l.set j v).map (Value.int .i64)).toArray := by
  have := h.set j (.int .i64 v)
  rwa [List.setIfInBounds_toArray, ← List.map_set] at this
theorem made_ints (n : Nat) : madeCells (Value.int .i64 0).cells (n * 1) = ((List.replicate n (0 : Int)).map (Value.int .i64)).toArray := by
  apply Array.ext
  · simp [madeCells]
  · intro i h1 h2
    simp [madeCells, Value.cells, Nat.mod_one]
theorem make_ints (n : Nat) (hn : n ≤ 1000) (W : World) : ∃ w2, (Instr.makeSlice 22 (.int .i64 (n : Int)) (.int .i64 (n : Int))).run Try.prog W = .ok (.slice (some ⟨W.heap.size, 0, none⟩) n n) w2 ∧ Below W.heap.size W w2 ∧ Bk w2 W.heap.size 3 ((List.replicate n (0 : Int)).map (Value.int .i64)).toArray := by
  obtain ⟨i0, hi, hz0, hz1, hz2⟩ := info_parts infoInt
  have := run_make (P := Try.prog) W 22 3 i0 (.int .i64 0) Try.underlying22 hi hz0 .i64 .i64 (n : Int) (n : Int) (by omega) (Int.le_refl _) (by rw [hz2]; omega) (by omega)
  rw [hz1, Int.toNat_natCast, made_ints] at this
  exact ⟨_, this, bl_alloc (Below.refl _ _) _, Bk.new' rfl⟩
theorem mk_open {p : Pt} {l : List Int} {a : Int} (h : p.k = 1) : mk1 p l a = -2 := by unfold mk1; rw [if_pos h]
theorem mk_acc {p : Pt} {l : List Int} {a : Int} (h : ¬ p.k = 1) (h2 : acc p l a = true) : mk1 p l a = p.m := by unfold mk1; rw [if_neg h, if_pos h2]
theorem mk_na {p : Pt} {l : List Int} {a : Int} (h : ¬ p.k = 1) (h2 : acc p l a = false) (h3 : a = -1) : mk1 p l a = -1 := by unfold mk1; rw [if_neg h, if_neg (by simp [h2]), if_pos h3]
theorem mk_no {p : Pt} {l : List Int} {a : Int} (h : ¬ p.k = 1) (h2 : acc p l a = false) (h3 : ¬ a = -1) : mk1 p l a = 0 := by unfold mk1; rw [if_neg h, if_neg (by simp [h2]), if_neg h3]
theorem inR_k {p : Pt} {a : Int} (h : ¬ p.k = 2) : inR p a = true := decide_eq_true fun e => absurd e h
theorem inR_y {p : Pt} {a : Int} (h : -2 ≤ a ∧ a < p.n) : inR p a = true := decide_eq_true fun _ => h
theorem inR_n {p : Pt} {a : Int} (hk : p.k = 2) (h : ¬ (-2 ≤ a ∧ a < p.n)) : inR p a = false := decide_eq_false fun e => h (e hk)
set_option maxHeartbeats 4000000 in
set_option maxRecDepth 100000 in
theorem closed_any (p : Pa) (s : Sc) (an : List Int) (M : Option Addr) (cM : Nat) (w : World) (hp : PaOk w p) (hs : ScOk w s) (hm : RdI w .i64 M an) (hml : an.length ≤ 9223372036854775807) :
    Calls Try.prog 16 #[pav p, scv s, .slice M an.length cM] w (RetIE (clo p s an) w) := by
  have HV := Lib.hid (show ∀ W, Below w.heap.size w W → Calls Try.prog 35 #[.agg #[.int .i64 p.c, .int .i64 p.v, .slice p.A p.l.length p.k], .agg #[.slice s.K s.ks.length s.ck, .slice s.W s.wd.length s.cw]] W fun e w' => e = .returned (.bool (sval p s)) ∧ Below W.heap.size W w' from fun W hW => valid_any p s W (hp.old hW) (hs.old hW))
  have HM := Lib.hid hm
  clear hm
  show Calls Try.prog 16 #[.agg #[.int .i64 p.c, .int .i64 p.v, .slice p.A p.l.length p.k], .agg #[.slice s.K s.ks.length s.ck, .slice s.W s.wd.length s.cw], .slice M an.length cM] w _
  have hr0 := hp.rd
  have hk0 := hs.rk
  have hw0 := hs.rw
  generalize p.A = A at hr0 HV ⊢
  generalize s.K = K at hk0 HV ⊢
  generalize s.W = Wa at hw0 HV ⊢
  have HR := Lib.hid hr0
  have HK := Lib.hid hk0
  have HW := Lib.hid hw0
  have hl := hp.len
  have hlk := hs.lk
  have hlw := hs.lw
  have HLE := Lib.hid hs.le
  clear hr0 hk0 hw0 hp hs
  have hb0 : Below w.heap.size w ((w.alloc (.cells #[.int .i64 p.c, .int .i64 p.v, .slice A p.l.length p.k] 27)).alloc (.cells #[.slice K s.ks.length s.ck, .slice Wa s.wd.length s.cw] 31)) := by (repeat (first | with_reducible exact Below.refl _ _ | with_reducible refine bl_drewN ?_ _ | with_reducible refine Below.drew ?_ | with_reducible refine bl_alloc ?_ _ | with_reducible refine Below.alloc ?_ (by first | omega | (simp; done) | (simp; omega)) _ | with_reducible refine Below.setCell ?_ (by first | omega | (simp; done) | (simp; omega)) _ | with_reducible assumption))
  have B1 : Bk ((w.alloc (.cells #[.int .i64 p.c, .int .i64 p.v, .slice A p.l.length p.k] 27)).alloc (.cells #[.slice K s.ks.length s.ck, .slice Wa s.wd.length s.cw] 31)) w.heap.size 27 #[.int .i64 p.c, .int .i64 p.v, .slice A p.l.length p.k] := by (repeat (first | ((with_reducible refine Bk.new' ?_); (first | rfl | (simp; done) | (simp; omega))) | with_reducible refine Bk.alloc ?_ _ | with_reducible refine Bk.drewN ?_ _ | with_reducible refine Bk.drew ?_ | with_reducible assumption))
  have B2 : Bk ((w.alloc (.cells #[.int .i64 p.c, .int .i64 p.v, .slice A p.l.length p.k] 27)).alloc (.cells #[.slice K s.ks.length s.ck, .slice Wa s.wd.length s.cw] 31)) (w.heap.size + 1) 31 #[.slice K s.ks.length s.ck, .slice Wa s.wd.length s.cw] := by (repeat (first | ((with_reducible refine Bk.new' ?_); (first | rfl | (simp; done) | (simp; omega))) | with_reducible refine Bk.alloc ?_ _ | with_reducible refine Bk.drewN ?_ _ | with_reducible refine Bk.drew ?_ | with_reducible assumption))
  go_enter Try.func16, Try.ntmps16
  go_wp2_with fail
  refine (HV.out _ hb0).mono ?_
  rintro e w1 ⟨rfl, hb1⟩
  have hc1 := bl_trans hb0 hb1
  have C1 := B1.old hb1
  have C2 := B2.old hb1
  clear hb0 B1 B2 hb1
  have g1 := C1.lt
  have g2 := C2.lt
  obtain ⟨c0, c1, c2⟩ := bk3' C1
  obtain ⟨⟨d0, d1⟩, -⟩ := bk2 C2
  cases hv : sval p s
  · have Hz := Lib.hid (clo_1 (an := an) hv)
    go_wp2_with fail
    go_ret2
    exact ret_nil 1 hc1 Hz.out
  have HO := Lib.hid (sval_ok hv)
  have H1 := Lib.hid (sval_ok hv).lk
  have H2 := Lib.hid (sval_ok hv).lw
  have h24 := (sval_ok hv).len
  have Hv := Lib.hid hv
  by_cases hq : ¬ an.length = p.l.length
  · have Hz := Lib.hid (clo_22 hv hq)
    clear hv
    go_wp2_with fail
    all_goals (first | (exfalso; omega) | (go_ret2; exact ret_nil 22 hc1 Hz.out))
  replace hq := Decidable.not_not.1 hq
  have t1 : ((an.length : Int) != (p.l.length : Int)) = false := by simp [hq]
  have t1' : (an.length != p.l.length) = false := by simp [hq]
  have H3 := Lib.hid hq
  clear hv hq
  go_wp2_with fail
  go_loopw [27] (fun i wr => ∃ j : Nat, j ≤ p.l.length ∧ i = .int .i64 j ∧ Hid (∀ m, m < j → inR (gp p.l m) (gi an m) = true) ∧ Bk wr w.heap.size 27 #[.int .i64 p.c, .int .i64 p.v, .slice A p.l.length p.k] ∧ Bk wr (w.heap.size + 1) 31 #[.slice K s.ks.length s.ck, .slice Wa s.wd.length s.cw] ∧ Below w.heap.size w wr) (fun i _ => p.l.length - (intOf i).toNat)
  case atStart => exact ⟨0, by omega, rfl, fun j hj => absurd hj (by omega), C1, C2, hc1⟩
  case round =>
    clear C1 C2 hc1 c0 c1 c2 d0 d1
    obtain ⟨j, hj, rfl, Hok, C1, C2, hb⟩ := hrel
    by_cases hlt : j < p.l.length
    · obtain ⟨b, off, rfl, hbl, a0, a1, a2, a3, a4, a5⟩ := (HR.out.old hb).at j hlt
      obtain ⟨kb, koff, rfl, hkl, hkc, hkr⟩ := (HK.out.old hb) j (by have := H1.out; omega)
      obtain ⟨mb, moff, rfl, hml2, hmc⟩ := (HM.out.old hb) j (by have := H3.out; omega)
      have hkl2 := HLE.out j (by have := H1.out; omega)
      have q0 : (0 : Int) ≤ j := by omega
      have q1 : (j : Int) < p.l.length := by omega
      have q2 : (j : Int) < an.length := by have := H3.out; omega
      have q3 : (j : Int) < s.ks.length := by have := H1.out; omega
      have g1 := C1.lt
      have g2 := C2.lt
      obtain ⟨c0, c1, c2⟩ := bk3' C1
      obtain ⟨⟨d0, d1⟩, -⟩ := bk2 C2
      have hvp := (vp_iff _).1 (HO.out.part j hlt)
      clear hkr
      by_cases k2 : (gp p.l j).k = 2
      · have z1 : ((gp p.l j).k == 2) = true := beq_iff_eq.2 k2
        by_cases r1 : gi an j = -1
        · have Hy := Lib.hid (inR_y (p := gp p.l j) (a := gi an j) (by omega))
          have z2 : (gi an j != -1) = false := by simp [r1]
          clear r1 k2 hvp
          go_wp2_with fail
          go_roundw
          case rel =>
            refine ⟨j + 1, by omega, by go_num, fun m hm => ?_, by (repeat (first | with_reducible assumption | with_reducible refine Bk.drewN ?_ _ | with_reducible refine Bk.drew ?_ | with_reducible refine Bk.alloc ?_ _)), by (repeat (first | with_reducible assumption | with_reducible refine Bk.drewN ?_ _ | with_reducible refine Bk.drew ?_ | with_reducible refine Bk.alloc ?_ _)), by (repeat (first | with_reducible exact Below.refl _ _ | with_reducible refine bl_drewN ?_ _ | with_reducible refine Below.drew ?_ | with_reducible refine bl_alloc ?_ _ | with_reducible refine Below.alloc ?_ (by first | omega | (simp; done) | (simp; omega)) _ | with_reducible refine Below.setCell ?_ (by first | omega | (simp; done) | (simp; omega)) _ | with_reducible assumption))⟩
            by_cases hjk : m = j
            · subst hjk; exact Hy.out
            · exact Hok.out m (by omega)
          case measure => simp [intOf]; omega
        by_cases r2 : gi an j = -2
        · have Hy := Lib.hid (inR_y (p := gp p.l j) (a := gi an j) (by omega))
          have z2 : (gi an j != -1) = true := bne_iff_ne.2 r1
          have z3 : (gi an j != -2) = false := by simp [r2]
          clear r1 r2 k2 hvp
          go_wp2_with fail
          go_roundw
          case rel =>
            refine ⟨j + 1, by omega, by go_num, fun m hm => ?_, by (repeat (first | with_reducible assumption | with_reducible refine Bk.drewN ?_ _ | with_reducible refine Bk.drew ?_ | with_reducible refine Bk.alloc ?_ _)), by (repeat (first | with_reducible assumption | with_reducible refine Bk.drewN ?_ _ | with_reducible refine Bk.drew ?_ | with_reducible refine Bk.alloc ?_ _)), by (repeat (first | with_reducible exact Below.refl _ _ | with_reducible refine bl_drewN ?_ _ | with_reducible refine Below.drew ?_ | with_reducible refine bl_alloc ?_ _ | with_reducible refine Below.alloc ?_ (by first | omega | (simp; done) | (simp; omega)) _ | with_reducible refine Below.setCell ?_ (by first | omega | (simp; done) | (simp; omega)) _ | with_reducible assumption))⟩
            by_cases hjk : m = j
            · subst hjk; exact Hy.out
            · exact Hok.out m (by omega)
          case measure => simp [intOf]; omega
        have z2 : (gi an j != -1) = true := bne_iff_ne.2 r1
        have z3 : (gi an j != -2) = true := bne_iff_ne.2 r2
        by_cases r3 : gi an j < 0
        · have Hz := Lib.hid (clo_2 Hv.out H3.out j hlt (inR_n k2 (by omega)))
          have z4 : decide (gi an j < 0) = true := decide_eq_true r3
          clear r1 r2 k2 hvp
          go_wp2_with fail
          go_ret2
          exact ret_nil 2 (by (repeat (first | with_reducible exact Below.refl _ _ | with_reducible refine bl_drewN ?_ _ | with_reducible refine Below.drew ?_ | with_reducible refine bl_alloc ?_ _ | with_reducible refine Below.alloc ?_ (by first | omega | (simp; done) | (simp; omega)) _ | with_reducible refine Below.setCell ?_ (by first | omega | (simp; done) | (simp; omega)) _ | with_reducible assumption))) Hz.out
        have z4 : decide (gi an j < 0) = false := decide_eq_false r3
        by_cases r4 : gi an j < (gp p.l j).n
        · have Hy := Lib.hid (inR_y (p := gp p.l j) (a := gi an j) (by omega))
          have z5 : decide ((gp p.l j).n ≤ gi an j) = false := decide_eq_false (by omega)
          clear r1 r2 k2 hvp
          go_wp2_with fail
          go_roundw
          case rel =>
            refine ⟨j + 1, by omega, by go_num, fun m hm => ?_, by (repeat (first | with_reducible assumption | with_reducible refine Bk.drewN ?_ _ | with_reducible refine Bk.drew ?_ | with_reducible refine Bk.alloc ?_ _)), by (repeat (first | with_reducible assumption | with_reducible refine Bk.drewN ?_ _ | with_reducible refine Bk.drew ?_ | with_reducible refine Bk.alloc ?_ _)), by (repeat (first | with_reducible exact Below.refl _ _ | with_reducible refine bl_drewN ?_ _ | with_reducible refine Below.drew ?_ | with_reducible refine bl_alloc ?_ _ | with_reducible refine Below.alloc ?_ (by first | omega | (simp; done) | (simp; omega)) _ | with_reducible refine Below.setCell ?_ (by first | omega | (simp; done) | (simp; omega)) _ | with_reducible assumption))⟩
            by_cases hjk : m = j
            · subst hjk; exact Hy.out
            · exact Hok.out m (by omega)
          case measure => simp [intOf]; omega
        · have Hz := Lib.hid (clo_2 Hv.out H3.out j hlt (inR_n k2 (by omega)))
          have z5 : decide ((gp p.l j).n ≤ gi an j) = true := decide_eq_true (by omega)
          clear r1 r2 k2 hvp
          go_wp2_with fail
          go_ret2
          exact ret_nil 2 (by (repeat (first | with_reducible exact Below.refl _ _ | with_reducible refine bl_drewN ?_ _ | with_reducible refine Below.drew ?_ | with_reducible refine bl_alloc ?_ _ | with_reducible refine Below.alloc ?_ (by first | omega | (simp; done) | (simp; omega)) _ | with_reducible refine Below.setCell ?_ (by first | omega | (simp; done) | (simp; omega)) _ | with_reducible assumption))) Hz.out
      · have z1 : ((gp p.l j).k == 2) = false := beq_eq_false_iff_ne.2 k2
        have Hy := Lib.hid (inR_k (a := gi an j) k2)
        clear k2 hvp
        go_wp2_with fail
        go_roundw
        case rel =>
          refine ⟨j + 1, by omega, by go_num, fun m hm => ?_, by (repeat (first | with_reducible assumption | with_reducible refine Bk.drewN ?_ _ | with_reducible refine Bk.drew ?_ | with_reducible refine Bk.alloc ?_ _)), by (repeat (first | with_reducible assumption | with_reducible refine Bk.drewN ?_ _ | with_reducible refine Bk.drew ?_ | with_reducible refine Bk.alloc ?_ _)), by (repeat (first | with_reducible exact Below.refl _ _ | with_reducible refine bl_drewN ?_ _ | with_reducible refine Below.drew ?_ | with_reducible refine bl_alloc ?_ _ | with_reducible refine Below.alloc ?_ (by first | omega | (simp; done) | (simp; omega)) _ | with_reducible refine Below.setCell ?_ (by first | omega | (simp; done) | (simp; omega)) _ | with_reducible assumption))⟩
          by_cases hjk : m = j
          · subst hjk; exact Hy.out
          · exact Hok.out m (by omega)
        case measure => simp [intOf]; omega
    · have Hz := Lib.hid (clo_0 Hv.out H3.out fun i hi => Hok.out i (by omega))
      obtain ⟨c0, c1, c2⟩ := bk3' C1
      obtain ⟨⟨d0, d1⟩, -⟩ := bk2 C2
      have hc1 := hb
      clear hb Hok hj
      obtain ⟨w2, hmk, hb2, D3'⟩ := make_ints p.l.length (by omega) wr
      have D3 : Bk w2 wr.heap.size 3 ((mz p s an p.l.length 0).map (Value.int .i64)).toArray := D3'
      have D1 := C1.old hb2
      have D2 := C2.old hb2
      have hc2 := bl_trans hc1 hb2
      have gw : w.heap.size + 2 ≤ wr.heap.size := by have := C2.lt; omega
      have e2 : w2.cell? ⟨w.heap.size, 2, none⟩ = some (.slice A p.l.length p.k) := D1.cell 2
      go_wp2_with fail
      clear hmk c0 c1 c2 d0 d1 C1 C2 hc1 hb2 D3' e2
      obtain ⟨G, hG⟩ : ∃ G : Nat, G = wr.heap.size := ⟨_, rfl⟩
      rw [← hG] at D3 gw ⊢
      clear hG
      go_loopw [65] (fun i wr => ∃ j : Nat, j ≤ p.l.length ∧ i = .int .i64 j ∧ Bk wr w.heap.size 27 #[.int .i64 p.c, .int .i64 p.v, .slice A p.l.length p.k] ∧ Bk wr (w.heap.size + 1) 31 #[.slice K s.ks.length s.ck, .slice Wa s.wd.length s.cw] ∧ Bk wr G 3 ((mz p s an p.l.length j).map (Value.int .i64)).toArray ∧ Below w.heap.size w wr) (fun i _ => p.l.length - (intOf i).toNat)
      case atStart => exact ⟨0, by omega, rfl, D1, D2, D3, hc2⟩
      case round =>
        clear D1 D2 D3 hc2 hlt
        obtain ⟨j, hj, rfl, C1, C2, C3, hb⟩ := hrel
        by_cases hlt : j < p.l.length
        · obtain ⟨b, off, rfl, hbl, a0, a1, a2, a3, a4, a5⟩ := (HR.out.old hb).at j hlt
          obtain ⟨kb, koff, rfl, hkl, hkc, hkr⟩ := (HK.out.old hb) j (by have := H1.out; omega)
          obtain ⟨mb, moff, rfl, hml2, hmc⟩ := (HM.out.old hb) j (by have := H3.out; omega)
          have hkl2 := HLE.out j (by have := H1.out; omega)
          have q0 : (0 : Int) ≤ j := by omega
          have q1 : (j : Int) < p.l.length := by omega
          have q2 : (j : Int) < an.length := by have := H3.out; omega
          have q3 : (j : Int) < s.ks.length := by have := H1.out; omega
          have g1 := C1.lt
          have g2 := C2.lt
          obtain ⟨c0, c1, c2⟩ := bk3' C1
          obtain ⟨⟨d0, d1⟩, -⟩ := bk2 C2
          have hvp := (vp_iff _).1 (HO.out.part j hlt)
          have g3 := C3.lt
          have hmz := mz_len p s an p.l.length j hj
          have x3 : wr.cell? ⟨G, j, none⟩ = some (.int .i64 (gi (mz p s an p.l.length j) j)) := by
            rw [C3.cell, List.getElem?_toArray, List.getElem?_map, gi_lt _ _ (by omega)]; rfl
          have y3 : wr.frozen? ⟨G, j, none⟩ = false := C3.frozen j
          have Hms := Lib.hid (mz_set p s an p.l.length j hlt)
          clear hvp
          by_cases k1 : (gp p.l j).k = 1
          · have z1 : ((gp p.l j).k == 1) = true := beq_iff_eq.2 k1
            rw [mk_open k1] at Hms
            clear k1 hkr
            go_wp2_with fail
            go_roundw
            case rel => exact ⟨j + 1, by omega, by go_num, (C1.far (p := ⟨G, j, none⟩) (by show w.heap.size ≠ G; omega) _).alloc _, (C2.far (p := ⟨G, j, none⟩) (by show w.heap.size + 1 ≠ G; omega) _).alloc _, by rw [← Hms.out]; exact (bk_ints C3 j (-2)).alloc _, bl_alloc (Below.setCell hb (p := ⟨G, j, none⟩) (by show w.heap.size ≤ G; omega) _) _⟩
            case measure => simp [intOf]; omega
          · have z1 : ((gp p.l j).k == 1) = false := beq_eq_false_iff_ne.2 k1
            obtain ⟨W, hWe⟩ : ∃ W, W = wr.alloc (.cells #[.int .i64 (gp p.l j).k, .int .i64 (gp p.l j).m, .int .i64 (gp p.l j).t, .int .i64 (gp p.l j).o, .int .i64 (gp p.l j).n, .int .i64 (gp p.l j).y] 49) := ⟨_, rfl⟩
            have hbW : Below wr.heap.size wr W := by rw [hWe]; (repeat (first | with_reducible exact Below.refl _ _ | with_reducible refine bl_drewN ?_ _ | with_reducible refine Below.drew ?_ | with_reducible refine bl_alloc ?_ _ | with_reducible refine Below.alloc ?_ (by first | omega | (simp; done) | (simp; omega)) _ | with_reducible refine Below.setCell ?_ (by first | omega | (simp; done) | (simp; omega)) _ | with_reducible assumption))
            have R1 : RC 44 #[pv (gp p.l j), kv (gk s.ks j), .int .i64 (gi an j)] W (.bool (acc (gp p.l j) (gk s.ks j).l (gi an j))) := RC.of fun V hV => acc_any _ _ _ _ _ V hkl2 (hkr.old (bl_trans hbW hV))
            have C4 : Bk W wr.heap.size 49 #[.int .i64 (gp p.l j).k, .int .i64 (gp p.l j).m, .int .i64 (gp p.l j).t, .int .i64 (gp p.l j).o, .int .i64 (gp p.l j).n, .int .i64 (gp p.l j).y] := by rw [hWe]; exact Bk.new' rfl
            have K1 := Lib.hid k1
            subst hWe
            clear k1 hkr
            cases hac : acc (gp p.l j) (gk s.ks j).l (gi an j)
            · rw [hac] at R1
              go_wp2_with fail
              refine Mm.region_ext (by kernel_rfl) (by kernel_rfl) ?_; (repeat (first | go_big_quiet_step ((exact Mm.RC.call (by with_reducible assumption) _)) | quiet_step ((exact Mm.RC.call (by with_reducible assumption) _)))); refine wpQuiet_nil ?_
              intro w5 hb5
              have D1 := (C1.old hbW).old hb5
              have D2 := (C2.old hbW).old hb5
              have D3 := (C3.old hbW).old hb5
              have D4 := C4.old hb5
              have hb6 := bl_trans (bl_trans hb hbW) hb5
              have g5 : wr.heap.size < w5.heap.size := D4.lt
              clear C1 C2 C3 C4 hbW hb5 hb R1 c0 c1 c2 d0 d1 a0 a1 a2 a3 a4 a5 hkc hmc x3 y3
              obtain ⟨mb', moff', hM', hml3, hmc⟩ := (HM.out.old hb6) j (by have := H3.out; omega)
              cases hM'
              have a1 : w5.cell? ⟨wr.heap.size, 1, none⟩ = some (.int .i64 (gp p.l j).m) := D4.cell 1
              have x3 : w5.cell? ⟨G, j, none⟩ = some (.int .i64 (gi (mz p s an p.l.length j) j)) := by
                rw [D3.cell, List.getElem?_toArray, List.getElem?_map, gi_lt _ _ (by omega)]; rfl
              have y3 : w5.frozen? ⟨G, j, none⟩ = false := D3.frozen j
              by_cases r1 : gi an j = -1
              · have z2 : (gi an j == -1) = true := beq_iff_eq.2 r1
                rw [mk_na K1.out hac r1] at Hms
                clear r1
                go_wp2_with fail
                go_roundw
                case rel => exact ⟨j + 1, by omega, by go_num, D1.far (by show w.heap.size ≠ G; omega) _, D2.far (by show w.heap.size + 1 ≠ G; omega) _, by rw [← Hms.out]; exact bk_ints D3 j (-1), Below.setCell hb6 (by show w.heap.size ≤ G; omega) _⟩
                case measure => simp [intOf]; omega
              · have z2 : (gi an j == -1) = false := beq_eq_false_iff_ne.2 r1
                have Hno := Lib.hid (mz_no p s an p.l.length j hlt (mk_no K1.out hac r1))
                clear r1
                go_wp2_with fail
                go_roundw
                case rel => exact ⟨j + 1, by omega, by go_num, D1, D2, by rw [Hno.out]; exact D3, hb6⟩
                case measure => simp [intOf]; omega
            · rw [hac] at R1
              rw [mk_acc K1.out hac] at Hms
              go_wp2_with fail
              refine Mm.region_ext (by kernel_rfl) (by kernel_rfl) ?_; (repeat (first | go_big_quiet_step ((exact Mm.RC.call (by with_reducible assumption) _)) | quiet_step ((exact Mm.RC.call (by with_reducible assumption) _)))); refine wpQuiet_nil ?_
              intro w5 hb5
              have D1 := (C1.old hbW).old hb5
              have D2 := (C2.old hbW).old hb5
              have D3 := (C3.old hbW).old hb5
              have D4 := C4.old hb5
              have hb6 := bl_trans (bl_trans hb hbW) hb5
              have g5 : wr.heap.size < w5.heap.size := D4.lt
              clear C1 C2 C3 C4 hbW hb5 hb R1 c0 c1 c2 d0 d1 a0 a1 a2 a3 a4 a5 hkc hmc x3 y3
              obtain ⟨mb', moff', hM', hml3, hmc⟩ := (HM.out.old hb6) j (by have := H3.out; omega)
              cases hM'
              have a1 : w5.cell? ⟨wr.heap.size, 1, none⟩ = some (.int .i64 (gp p.l j).m) := D4.cell 1
              have x3 : w5.cell? ⟨G, j, none⟩ = some (.int .i64 (gi (mz p s an p.l.length j) j)) := by
                rw [D3.cell, List.getElem?_toArray, List.getElem?_map, gi_lt _ _ (by omega)]; rfl
              have y3 : w5.frozen? ⟨G, j, none⟩ = false := D3.frozen j
              go_wp2_with fail
              go_roundw
              case rel => exact ⟨j + 1, by omega, by go_num, D1.far (by show w.heap.size ≠ G; omega) _, D2.far (by show w.heap.size + 1 ≠ G; omega) _, by rw [← Hms.out]; exact bk_ints D3 j _, Below.setCell hb6 (by show w.heap.size ≤ G; omega) _⟩
              case measure => simp [intOf]; omega
        · have hjn : j = p.l.length := by omega
          subst hjn
          go_wp2_with fail
          go_ret2
          rw [mz_end] at C3
          refine ⟨some ⟨G, 0, none⟩, p.l.length, ?_, ?_, fun a ha => ?_, fun a ha o => ?_, hb⟩
          · rw [Hz.out]; show _ = Ending.returned (.tuple #[.slice _ (mks p s an p.l.length).length _, _]); rw [mks_len]; rfl
          · rw [Hz.out]; exact RdI.bk C3 rfl
          · cases ha; exact ⟨by show w.heap.size ≤ G; omega, C3.lt⟩
          · cases ha; exact C3.frozen o
end Go.Proofs.Ytokddjohdodkmaa.Tm
