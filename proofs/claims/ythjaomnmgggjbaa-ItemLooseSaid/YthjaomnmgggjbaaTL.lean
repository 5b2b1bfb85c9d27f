/- Walk: the statement ItemLoose. -/
import Derived.Test.YthjaomnmgggjbaaTY
import Derived.Test.YthjaomnmgggjbaaMem
import Derived.WalkKit
import Derived.WalkSpells
import Derived.WalkLawsBesides
import Derived.Deep.QuietTactic
import Derived.BigQuiet
import Derived.Deep.Draws
import Derived.Deep.AppendLies
import Derived.Laws.OwnMore
import Derived.Laws.BytesArg
import Derived.Lib.Hide
import Derived.Deep.LoopGhost
import Derived.Deep.DeepCutAuto
import Derived.Deep.RegionHeld3
namespace Go.Proofs.Ythjaomnmgggjbaa.Tm
open Go.RowKit Go.Proofs.Ythjaomnmgggjbaa.Mw
set_option linter.unusedVariables false

section
variable (id ver : Int) (stem : ByteArray) (ps : List Pt) (en : List Int) (A : Option Addr) (c : Nat) (E : Option Addr) (d : Nat) (w : World)
abbrev sv : Value := .agg #[.int .i64 id, .int .i64 ver, .string stem, .slice A ps.length c, .slice E en.length d]
theorem check_i (hP : RdP w A ps) (hE : RdI w .i64 E en) (h : stem.size ≤ 1000000 ∧ ps.length ≤ 1000000 ∧ en.length ≤ 1000000) :
    Calls Try.prog 19 #[.agg #[.int .i64 id, .int .i64 ver, .string stem, .slice A ps.length c, .slice E en.length d]] w fun e w' => e = .returned (.int .i64 (chk ⟨id, ver, stem, ps, en⟩)) ∧ Below w.heap.size w w' := check_any ⟨id, ver, stem, ps, en⟩ A c E d w ⟨hP, hE, h⟩
theorem rcheck_i (hP : RdP w A ps) (hE : RdI w .i64 E en) (h : stem.size ≤ 1000000 ∧ ps.length ≤ 1000000 ∧ en.length ≤ 1000000) :
    Calls Try.prog 20 #[.agg #[.int .i64 id, .int .i64 ver, .string stem, .slice A ps.length c, .slice E en.length d]] w fun e w' => e = .returned (.int .i64 (chk ⟨id, ver, stem, ps, en⟩)) ∧ Below w.heap.size w w' := rcheck_any ⟨id, ver, stem, ps, en⟩ A c E d w ⟨hP, hE, h⟩
theorem total_i (hP : RdP w A ps) (hE : RdI w .i64 E en) (h : stem.size ≤ 1000000 ∧ ps.length ≤ 1000000 ∧ en.length ≤ 1000000) :
    Calls Try.prog 21 #[.agg #[.int .i64 id, .int .i64 ver, .string stem, .slice A ps.length c, .slice E en.length d]] w fun e w' => e = .returned (.int .i64 (tot ⟨id, ver, stem, ps, en⟩)) ∧ Below w.heap.size w w' := total_any ⟨id, ver, stem, ps, en⟩ A c E d w ⟨hP, hE, h⟩
theorem rtotal_i (hP : RdP w A ps) (hE : RdI w .i64 E en) (h : stem.size ≤ 1000000 ∧ ps.length ≤ 1000000 ∧ en.length ≤ 1000000) :
    Calls Try.prog 22 #[.agg #[.int .i64 id, .int .i64 ver, .string stem, .slice A ps.length c, .slice E en.length d]] w fun e w' => e = .returned (.int .i64 (tot ⟨id, ver, stem, ps, en⟩)) ∧ Below w.heap.size w w' := rtotal_any ⟨id, ver, stem, ps, en⟩ A c E d w ⟨hP, hE, h⟩
end
theorem RdP.ext {w : World} {A : Option Addr} {l : List Pt} (h : RdP w A l) (x : Mm.Ex) : RdP (Mm.ext w x) A l := h.old (Mm.ext_below w x)
theorem RdI.ext {w : World} {kd : IntKind} {A : Option Addr} {l : List Int} (h : RdI w kd A l) (x : Mm.Ex) : RdI (Mm.ext w x) kd A l := h.old (Mm.ext_below w x)
theorem cell_alloc {w : World} {a : Addr} {v : Value} (h : w.cell? a = some v) (o : Obj) : (w.alloc o).cell? a = some v := (World.cell?_alloc_lt w o a (World.block_lt_of_cell? w a h)).trans h
theorem cell_drew {w : World} {a : Addr} {v : Value} (h : w.cell? a = some v) : w.drew.cell? a = some v := h
theorem cell_far {w : World} {a p : Addr} {v : Value} (h : w.cell? a = some v) (hne : p.block ≠ a.block) (u : Value) : (w.setCell p u).cell? a = some v := (World.cell?_setCell_other w p a u (fun e => hne (by rw [e]))).trans h

set_option maxHeartbeats 4000000 in
set_option maxRecDepth 100000 in
theorem loose_any (l : List Int) (B : Option Addr) (cB : Nat) (id ver : Int) (stem : ByteArray) (en : List Int) (F : Option Addr) (cF : Nat) (w : World) (hl : l.length ≤ maxLen) (hlc : l.length ≤ cB) (hi : ∀ n ∈ l, I64 n) (hB : RdI w .i64 B l) (hst : stem.size ≤ maxLen) (hen : en.length ≤ maxLen) (hF : RdI w .i64 F en) :
    Calls Try.prog 5 #[.slice B l.length cB, .int .i64 id, .int .i64 ver, .string stem, .slice F en.length cF] w fun e w' => e = .returned (.bool true) ∧ Below w.heap.size w w' := by
  go_enter Try.func5, Try.ntmps5
  go_wp2_with fail
  refine (new_any l B cB _ hB hl hlc hi).mono ?_
  rintro e w1 ⟨rfl, ht1, hb1⟩
  have hlt1 := ht1.lt
  have HF0 := Lib.hid hF
  clear hB hF hi
  unfold maxLen at hl hst hen
  go_wp2_with fail
  refine (item0_any w.heap.size 3 1 0 _ ht1 (by omega)).mono ?_
  rintro e w2 ⟨x, A, c, E, d, hx, hA, hE, _, rfl, ht2, hg2⟩
  have hc2 : Below w.heap.size w w2 := bl_gb hb1 hg2 (Nat.le_refl _)
  obtain ⟨hxP, hxE, hx1, hx2, hx3⟩ := hx
  have HP := Lib.hid hxP
  have HE := Lib.hid hxE
  have HF := Lib.hid (HF0.out.old hc2)
  clear HF0 hb1 hg2 ht1 hA hE hxP hxE
  by_cases hq : stem.size ≤ 60 ∧ en.length ≤ 12
  · obtain ⟨q1, q2⟩ := hq
    have b1 : decide (60 < (stem.size : Int)) = false := by simp; omega
    have b2 : decide (12 < (en.length : Int)) = false := by simp; omega
    have k0 : (w2.alloc (.cells (itc x A c E d) 33)).cell? ⟨w2.heap.size, 0, none⟩ = some (.int .i64 x.id) := (Bk.new _ _ _).cell 0
    have k1 : (w2.alloc (.cells (itc x A c E d) 33)).cell? ⟨w2.heap.size, 1, none⟩ = some (.int .i64 x.ver) := (Bk.new _ _ _).cell 1
    have k2 : (w2.alloc (.cells (itc x A c E d) 33)).cell? ⟨w2.heap.size, 2, none⟩ = some (.string x.stem) := (Bk.new _ _ _).cell 2
    have k3 : (w2.alloc (.cells (itc x A c E d) 33)).cell? ⟨w2.heap.size, 3, none⟩ = some (.slice A x.ps.length c) := (Bk.new _ _ _).cell 3
    have k4 : (w2.alloc (.cells (itc x A c E d) 33)).cell? ⟨w2.heap.size, 4, none⟩ = some (.slice E x.en.length d) := (Bk.new _ _ _).cell 4
    go_upto_region 5 with fail
    go_cut [13, 14, 15, 16] (fun p1 p2 p3 p4 wx => ∃ g1 g2 g3 g4 : Nat, p1 = .pointer (some ⟨g1, 0, none⟩) ∧ p2 = .pointer (some ⟨g2, 0, none⟩) ∧ p3 = .pointer (some ⟨g3, 0, none⟩) ∧ p4 = .pointer (some ⟨g4, 0, none⟩) ∧ (g1 ≠ g2 ∧ g1 ≠ g3 ∧ g1 ≠ g4 ∧ g2 ≠ g3 ∧ g2 ≠ g4 ∧ g3 ≠ g4) ∧ (w2.heap.size < g1 ∧ w2.heap.size < g2 ∧ w2.heap.size < g3 ∧ w2.heap.size < g4) ∧ Bk wx g1 33 (itc x A c E d) ∧ Bk wx g2 33 (itc x A c E d) ∧ Bk wx g3 33 (itc x A c E d) ∧ Bk wx g4 33 (itc x A c E d) ∧ Below w2.heap.size w2 wx)
    case first =>
      go_region_held3 (fun w' => w'.cell? ⟨w2.heap.size, 0, none⟩ = some (.int .i64 x.id) ∧ w'.cell? ⟨w2.heap.size, 1, none⟩ = some (.int .i64 x.ver) ∧ w'.cell? ⟨w2.heap.size, 2, none⟩ = some (.string x.stem) ∧ w'.cell? ⟨w2.heap.size, 3, none⟩ = some (.slice A x.ps.length c) ∧ w'.cell? ⟨w2.heap.size, 4, none⟩ = some (.slice E x.en.length d)) ((refine ⟨?_, ?_, ?_, ?_, ?_⟩ <;> (repeat (first | with_reducible assumption | with_reducible refine cell_alloc ?_ _ | with_reducible refine cell_drew ?_ | with_reducible refine cell_far ?_ (by first | assumption | omega | (simp; done) | (simp; omega)) _)))) (fail)
      all_goals
        go_wp2_with fail
        go_meet
        exact ⟨_, _, _, _, rfl, rfl, rfl, rfl, ⟨by omega, by omega, by omega, by omega, by omega, by omega⟩, ⟨by omega, by omega, by omega, by omega⟩, by (repeat (first | ((with_reducible refine Bk.new' ?_); (first | rfl | (simp; done) | (simp; omega))) | with_reducible refine Bk.alloc ?_ _ | with_reducible refine Bk.drewN ?_ _ | with_reducible refine Bk.drew ?_ | with_reducible assumption)), by (repeat (first | ((with_reducible refine Bk.new' ?_); (first | rfl | (simp; done) | (simp; omega))) | with_reducible refine Bk.alloc ?_ _ | with_reducible refine Bk.drewN ?_ _ | with_reducible refine Bk.drew ?_ | with_reducible assumption)), by (repeat (first | ((with_reducible refine Bk.new' ?_); (first | rfl | (simp; done) | (simp; omega))) | with_reducible refine Bk.alloc ?_ _ | with_reducible refine Bk.drewN ?_ _ | with_reducible refine Bk.drew ?_ | with_reducible assumption)), by (repeat (first | ((with_reducible refine Bk.new' ?_); (first | rfl | (simp; done) | (simp; omega))) | with_reducible refine Bk.alloc ?_ _ | with_reducible refine Bk.drewN ?_ _ | with_reducible refine Bk.drew ?_ | with_reducible assumption)), by (repeat (first | with_reducible exact Below.refl _ _ | with_reducible refine bl_drewN ?_ _ | with_reducible refine Below.drew ?_ | with_reducible refine bl_alloc ?_ _ | with_reducible refine Below.alloc ?_ (by first | omega | (simp; done) | (simp; omega)) _ | with_reducible refine Below.setCell ?_ (by first | omega | (simp; done) | (simp; omega)) _ | with_reducible assumption))⟩
    case rest =>
      clear k0 k1 k2 k3 k4
      obtain ⟨g1, g2, g3, g4, rfl, rfl, rfl, rfl, ⟨n1, n2, n3, n4, n5, n6⟩, ⟨o1, o2, o3, o4⟩, B1, B2, B3, B4, hbc⟩ := hcut
      obtain ⟨⟨s0, s1, s2, s3, s4⟩, z0, z1, z2, z3, z4⟩ := bk5 B1
      obtain ⟨⟨t0, t1, t2, t3, t4⟩, y0, y1, y2, y3, y4⟩ := bk5 B2
      obtain ⟨⟨u0, u1, u2, u3, u4⟩, x0, x1, x2, x3, x4⟩ := bk5 B3
      obtain ⟨⟨v0, v1, v2, v3, v4⟩, m0, m1, m2, m3, m4⟩ := bk5 B4
      go_upto_region 7 with fail
      obtain ⟨wd, hwd⟩ : ∃ wd : World, wd = (((wc.setCell ⟨g1, 0, none⟩ (.int .i64 id)).setCell ⟨g2, 1, none⟩ (.int .i64 ver)).setCell ⟨g3, 2, none⟩ (.string stem)).setCell ⟨g4, 4, none⟩ (.slice F en.length cF) := ⟨_, rfl⟩
      rw [← hwd]
      have C1 : Bk wd g1 33 #[.int .i64 id, .int .i64 x.ver, .string x.stem, .slice A x.ps.length c, .slice E x.en.length d] := by
        rw [hwd]; exact (((B1.set 0 (.int .i64 id)).far (by simp; omega) _).far (by simp; omega) _).far (by simp; omega) _
      have C2 : Bk wd g2 33 #[.int .i64 x.id, .int .i64 ver, .string x.stem, .slice A x.ps.length c, .slice E x.en.length d] := by
        rw [hwd]; exact ((((B2.far (by simp; omega) _).set 1 (.int .i64 ver)).far (by simp; omega) _).far (by simp; omega) _)
      have C3 : Bk wd g3 33 #[.int .i64 x.id, .int .i64 x.ver, .string stem, .slice A x.ps.length c, .slice E x.en.length d] := by
        rw [hwd]; exact ((((B3.far (by simp; omega) _).far (by simp; omega) _).set 2 (.string stem)).far (by simp; omega) _)
      have C4 : Bk wd g4 33 #[.int .i64 x.id, .int .i64 x.ver, .string x.stem, .slice A x.ps.length c, .slice F en.length cF] := by
        rw [hwd]; exact (((B4.far (by simp; omega) _).far (by simp; omega) _).far (by simp; omega) _).set 4 (.slice F en.length cF)
      have hbd : Below w2.heap.size w2 wd := by
        rw [hwd]; exact (((hbc.setCell (by simp; omega) _).setCell (by simp; omega) _).setCell (by simp; omega) _).setCell (by simp; omega) _
      clear hwd s0 s1 s2 s3 s4 z0 z1 z2 z3 z4 t0 t1 t2 t3 t4 y0 y1 y2 y3 y4 u0 u1 u2 u3 u4 x0 x1 x2 x3 x4 v0 v1 v2 v3 v4 m0 m1 m2 m3 m4 B1 B2 B3 B4 hbc
      have l1 := C1.lt
      have l2 := C2.lt
      have l3 := C3.lt
      have l4 := C4.lt
      obtain ⟨⟨s0, s1, s2, s3, s4⟩, _⟩ := bk5 C1
      obtain ⟨⟨t0, t1, t2, t3, t4⟩, _⟩ := bk5 C2
      obtain ⟨⟨u0, u1, u2, u3, u4⟩, _⟩ := bk5 C3
      obtain ⟨⟨v0, v1, v2, v3, v4⟩, _⟩ := bk5 C4
      have HP' := Lib.hid (HP.out.old hbd)
      have HE' := Lib.hid (HE.out.old hbd)
      have HF' := Lib.hid (HF.out.old hbd)
      have hs6 : stem.size ≤ 1000000 := by omega
      have hn6 : en.length ≤ 1000000 := by omega
      clear C1 C2 C3 C4
      go_wp2_with fail
      refine Mm.region_ext (by kernel_rfl) (by kernel_rfl) ?_; (repeat (quiet_step ((first | (go_at_call 19; exact Mm.calls_ext (check_i _ _ _ x.ps _ A c _ _ _ (RdP.ext HP'.out _) (by first | exact RdI.ext HE'.out _ | exact RdI.ext HF'.out _) (by first | exact ⟨hx1, hx2, hx3⟩ | exact ⟨hs6, hx2, hx3⟩ | exact ⟨hx1, hx2, hn6⟩))) | (go_at_call 20; exact Mm.calls_ext (rcheck_i _ _ _ x.ps _ A c _ _ _ (RdP.ext HP'.out _) (by first | exact RdI.ext HE'.out _ | exact RdI.ext HF'.out _) (by first | exact ⟨hx1, hx2, hx3⟩ | exact ⟨hs6, hx2, hx3⟩ | exact ⟨hx1, hx2, hn6⟩))) | (go_at_call 21; exact Mm.calls_ext (total_i _ _ _ x.ps _ A c _ _ _ (RdP.ext HP'.out _) (by first | exact RdI.ext HE'.out _ | exact RdI.ext HF'.out _) (by first | exact ⟨hx1, hx2, hx3⟩ | exact ⟨hs6, hx2, hx3⟩ | exact ⟨hx1, hx2, hn6⟩))) | (go_at_call 22; exact Mm.calls_ext (rtotal_i _ _ _ x.ps _ A c _ _ _ (RdP.ext HP'.out _) (by first | exact RdI.ext HE'.out _ | exact RdI.ext HF'.out _) (by first | exact ⟨hx1, hx2, hx3⟩ | exact ⟨hs6, hx2, hx3⟩ | exact ⟨hx1, hx2, hn6⟩))) | (go_at_call 14; exact Mm.calls_ext (awake_any _)))))); refine wpQuiet_nil ?_
      intro w5 hb5
      go_wp2_with fail
      go_ret
      exact ⟨rfl, bl_trans (bl_trans hc2 hbd) hb5⟩
  · go_wp2_with fail
    all_goals (first | (exfalso; omega) | (go_ret; exact ⟨rfl, by (repeat (first | with_reducible exact Below.refl _ _ | with_reducible refine bl_drewN ?_ _ | with_reducible refine Below.drew ?_ | with_reducible refine bl_alloc ?_ _ | with_reducible refine Below.alloc ?_ (by first | omega | (simp; done) | (simp; omega)) _ | with_reducible refine Below.setCell ?_ (by first | omega | (simp; done) | (simp; omega)) _ | with_reducible assumption))⟩))
end Go.Proofs.Ythjaomnmgggjbaa.Tm
