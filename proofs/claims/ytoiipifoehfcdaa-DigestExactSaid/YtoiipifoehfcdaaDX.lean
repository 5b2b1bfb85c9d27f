/- Walk: the statement DigestExact. -/
import Derived.Test.YtoiipifoehfcdaaDT
import Derived.Test.YtoiipifoehfcdaaMem
import Derived.WalkKit
import Derived.WalkSpells
import Derived.WalkLawsBesides
import Derived.Deep.QuietTactic
import Derived.BigQuiet
import Derived.Deep.Draws
import Derived.Deep.AppendLies
import Derived.Laws.OwnMore
import Derived.Laws.BytesArg
import Derived.Lib.Hide
import Derived.Deep.LoopGhost
import Derived.Deep.RegionHeld3
import Derived.Deep.DeepCutAuto
namespace Go.Proofs.Ytoiipifoehfcdaa.Dg
open Go.RowKit
set_option linter.unusedVariables false

theorem bl_trans {a b c : World} (h : Below a.heap.size a b) (k : Below b.heap.size b c) : Below a.heap.size a c := h.trans (k.mono h.size)
theorem parse_both (s : ByteArray) (hs : s.size ≤ maxLen) : ∃ (d : St) (e : Int), (∀ w : World, Calls Try.prog 8 #[.string s] w fun r w' => r = .returned (.tuple #[dv d, .int .i64 e]) ∧ Below w.heap.size w w') ∧ (∀ w : World, Calls Try.prog 12 #[.string s] w fun r w' => r = .returned (.tuple #[dv d, .int .i64 e]) ∧ Below w.heap.size w w') := by
  by_cases h : pok s
  · refine ⟨pst s 32, 0, fun w => parse_ok s hs h w, fun w => (rparse_any s hs w).mono fun _ _ ⟨⟨v, he, hv⟩, hb⟩ => ⟨?_, hb⟩⟩
    rcases hv with ⟨_, hv⟩ | ⟨hn, _⟩
    · rw [he, hv]
    · exact absurd h hn
  · refine ⟨(0, 0, 0, 0), 7, fun w => parse_no s hs h w, fun w => (rparse_any s hs w).mono fun _ _ ⟨⟨v, he, hv⟩, hb⟩ => ⟨?_, hb⟩⟩
    rcases hv with ⟨hn, _⟩ | ⟨_, hv⟩
    · exact absurd hn h
    · rw [he, hv]
theorem beq_list (l : List UInt8) : (l == l) = true := by simp
abbrev c4 (s : St) : Array Value := #[.int .u32 s.1, .int .u32 s.2.1, .int .u32 s.2.2.1, .int .u32 s.2.2.2]

theorem cell_alloc {w : World} {a : Addr} {v : Value} (h : w.cell? a = some v) (o : Obj) : (w.alloc o).cell? a = some v := (World.cell?_alloc_lt w o a (World.block_lt_of_cell? w a h)).trans h
theorem cell_drew {w : World} {a : Addr} {v : Value} (h : w.cell? a = some v) : w.drew.cell? a = some v := h
theorem cell_far {w : World} {a p : Addr} {v : Value} (h : w.cell? a = some v) (hne : p.block ≠ a.block) (u : Value) : (w.setCell p u).cell? a = some v := (World.cell?_setCell_other w p a u (fun e => hne (by rw [e]))).trans h
theorem bk4 {w : World} {g : Nat} {T : TypeId} {a b c d : Value} (h : Mw.Bk w g T #[a, b, c, d]) : w.cell? ⟨g, 0, none⟩ = some a ∧ w.cell? ⟨g, 1, none⟩ = some b ∧ w.cell? ⟨g, 2, none⟩ = some c ∧ w.cell? ⟨g, 3, none⟩ = some d := ⟨h.cell 0, h.cell 1, h.cell 2, h.cell 3⟩

theorem bk4f {w : World} {g : Nat} {T : TypeId} {a b c d : Value} (h : Mw.Bk w g T #[a, b, c, d]) : (w.cell? ⟨g, 0, none⟩ = some a ∧ w.cell? ⟨g, 1, none⟩ = some b ∧ w.cell? ⟨g, 2, none⟩ = some c ∧ w.cell? ⟨g, 3, none⟩ = some d) ∧ w.frozen? ⟨g, 0, none⟩ = false ∧ w.frozen? ⟨g, 1, none⟩ = false ∧ w.frozen? ⟨g, 2, none⟩ = false ∧ w.frozen? ⟨g, 3, none⟩ = false := ⟨bk4 h, h.frozen 0, h.frozen 1, h.frozen 2, h.frozen 3⟩

theorem rd_ext {w : World} {kd : IntKind} {A : Option Addr} {l : List Int} (h : Rd w w.heap.size kd A l) (x : Mm.Ex) : Rd (Mm.ext w x) (Mm.ext w x).heap.size kd A l := (h.below (Mm.ext_below w x)).more (Mm.ext_below w x).size
theorem perm_d (a b c d : Int) (w : World) : Calls Try.prog 10 #[.agg #[.int .u32 a, .int .u32 b, .int .u32 c, .int .u32 d]] w fun e w' => e = .returned (dv (perm (a, b, c, d))) ∧ Below w.heap.size w w' := perm_any (a, b, c, d) w

attribute [local go_sem] eq_dig eq_arr eqb_self

set_option maxHeartbeats 4000000 in
set_option maxRecDepth 100000 in
theorem exact_any (s : St) (tag : Int) (A : Option Addr) (c : Nat) (l : List Int) (B : Option Addr) (d : Nat) (n : List Int) (text : ByteArray) (w : World) (hl : l.length ≤ maxLen) (hn : n.length ≤ maxLen) (ht : text.size ≤ maxLen) (hA : Rd w w.heap.size .u32 A l) (hB : Rd w w.heap.size .i64 B n) :
    Calls Try.prog 5 #[dv s, .int .u32 tag, .slice A l.length c, .slice B n.length d, .string text] w fun e w' => e = .returned (.bool true) ∧ Below w.heap.size w w' := by
  obtain ⟨pd, pe, hp, hrp⟩ := parse_both text ht
  have Hp := Lib.hid hp
  have Hrp := Lib.hid hrp
  unfold maxLen at hl hn ht
  clear hp hrp
  by_cases hq : l.length ≤ 100 ∧ n.length ≤ 100 ∧ text.size ≤ 400
  · obtain ⟨h1, h2, h3⟩ := hq
    have b1 : decide (100 < (l.length : Int)) = false := by simp; omega
    have b2 : decide (100 < (n.length : Int)) = false := by simp; omega
    have b3 : decide (400 < (text.size : Int)) = false := by simp; omega
    go_enter Try.func5, Try.ntmps5
    go_wp2_with fail
    refine (Hp.out _).mono ?_
    rintro e w1 ⟨rfl, hb1⟩
    have s1 : Mw.Bk w1 w.heap.size 23 (c4 s) := Mw.Bk.old (by (repeat (first | with_reducible assumption | ((with_reducible refine Mw.Bk.new' ?_); (first | rfl | (simp; done) | (simp; omega))) | with_reducible refine Mw.Bk.alloc ?_ _ | with_reducible refine Mw.Bk.drew ?_ | with_reducible refine Mw.Bk.drewN ?_ _ | with_reducible refine Mw.Bk.set4 (a0 := .int .u32 0) (a1 := .int .u32 0) (a2 := .int .u32 0) (a3 := .int .u32 0) ?_ | ((with_reducible refine Mw.Bk.far ?_ ?_ _); rotate_left 1; focus (first | omega | (simp; done) | (simp; omega))) | with_reducible refine Mw.Bk.old ?_ (by assumption)))) hb1
    have hc1 : Below w.heap.size w w1 := bl_trans (by (repeat (first | with_reducible exact Below.refl _ _ | with_reducible assumption | with_reducible refine bl_drewN ?_ _ | with_reducible refine Below.drew ?_ | with_reducible refine bl_alloc ?_ _ | ((with_reducible refine Below.setCell ?_ ?_ _); rotate_left 1; focus (first | omega | (simp; done) | (simp; omega))) | with_reducible refine bl_trans ?_ (by with_reducible assumption)))) hb1
    clear hb1
    go_wp2_with fail
    refine (Hrp.out _).mono ?_
    rintro e w2 ⟨rfl, hb2⟩
    have s2 := (s1.alloc (.cells (c4 pd) 24)).old hb2
    have a2 : Mw.Bk w2 w1.heap.size 24 (c4 pd) := Mw.Bk.old (by (repeat (first | with_reducible assumption | ((with_reducible refine Mw.Bk.new' ?_); (first | rfl | (simp; done) | (simp; omega))) | with_reducible refine Mw.Bk.alloc ?_ _ | with_reducible refine Mw.Bk.drew ?_ | with_reducible refine Mw.Bk.drewN ?_ _ | with_reducible refine Mw.Bk.set4 (a0 := .int .u32 0) (a1 := .int .u32 0) (a2 := .int .u32 0) (a3 := .int .u32 0) ?_ | ((with_reducible refine Mw.Bk.far ?_ ?_ _); rotate_left 1; focus (first | omega | (simp; done) | (simp; omega))) | with_reducible refine Mw.Bk.old ?_ (by assumption)))) hb2
    have hc2 : Below w.heap.size w w2 := bl_trans (by (repeat (first | with_reducible exact Below.refl _ _ | with_reducible assumption | with_reducible refine bl_drewN ?_ _ | with_reducible refine Below.drew ?_ | with_reducible refine bl_alloc ?_ _ | ((with_reducible refine Below.setCell ?_ ?_ _); rotate_left 1; focus (first | omega | (simp; done) | (simp; omega))) | with_reducible refine bl_trans ?_ (by with_reducible assumption)))) hb2
    have hz2 := a2.lt
    have hz1 := s1.lt
    clear hb2
    obtain ⟨k0, k1, k2, k3⟩ := bk4 s2
    have hz3 : w.heap.size < w2.heap.size := by omega
    have n1 : w2.heap.size ≠ w.heap.size := by omega
    have n2 : w2.heap.size + 1 ≠ w.heap.size := by omega
    have n3 : w2.heap.size + 1 + 1 ≠ w.heap.size := by omega
    go_upto_region 5 with fail
    go_cut [15, 16] (fun p q wx => ∃ g h : Nat, p = .pointer (some ⟨g, 0, none⟩) ∧ q = .pointer (some ⟨h, 0, none⟩) ∧ Mw.Bk wx g 24 (c4 s) ∧ Mw.Bk wx h 24 (c4 (words tag l)) ∧ Mw.Bk wx w.heap.size 23 (c4 s) ∧ Mw.Bk wx w1.heap.size 24 (c4 pd) ∧ Mw.Bk wx w2.heap.size 24 (c4 pd) ∧ Below w.heap.size w wx)
    case first =>
      go_region_held3 (fun w' => w'.cell? ⟨w.heap.size, 0, none⟩ = some (.int .u32 s.1) ∧ w'.cell? ⟨w.heap.size, 1, none⟩ = some (.int .u32 s.2.1) ∧ w'.cell? ⟨w.heap.size, 2, none⟩ = some (.int .u32 s.2.2.1) ∧ w'.cell? ⟨w.heap.size, 3, none⟩ = some (.int .u32 s.2.2.2)) ((refine ⟨?_, ?_, ?_, ?_⟩ <;> (repeat (first | with_reducible assumption | with_reducible refine cell_alloc ?_ _ | with_reducible refine cell_drew ?_ | with_reducible refine cell_far ?_ (by first | assumption | omega | (simp; omega)) _)))) ((go_at_call 13; refine (rwords_any tag A c l _ (by omega) (by refine Rd.more (B := w.heap.size) (Rd.below hA ?_) ?_; ((repeat (first | with_reducible exact Below.refl _ _ | with_reducible assumption | with_reducible refine bl_drewN ?_ _ | with_reducible refine Below.drew ?_ | with_reducible refine bl_alloc ?_ _ | ((with_reducible refine Below.setCell ?_ ?_ _); rotate_left 1; focus (first | omega | (simp; done) | (simp; omega))) | with_reducible refine bl_trans ?_ (by with_reducible assumption)))); (first | omega | (simp; omega)))).mono ?_; rintro e w3 ⟨rfl, hb3⟩; have s3 : Mw.Bk w3 w.heap.size 23 (c4 s) := Mw.Bk.old (by (repeat (first | with_reducible assumption | ((with_reducible refine Mw.Bk.new' ?_); (first | rfl | (simp; done) | (simp; omega))) | with_reducible refine Mw.Bk.alloc ?_ _ | with_reducible refine Mw.Bk.drew ?_ | with_reducible refine Mw.Bk.drewN ?_ _ | with_reducible refine Mw.Bk.set4 (a0 := .int .u32 0) (a1 := .int .u32 0) (a2 := .int .u32 0) (a3 := .int .u32 0) ?_ | ((with_reducible refine Mw.Bk.far ?_ ?_ _); rotate_left 1; focus (first | omega | (simp; done) | (simp; omega))) | with_reducible refine Mw.Bk.old ?_ (by assumption)))) hb3; obtain ⟨j0, j1, j2, j3⟩ := bk4 s3; have hy : w3.heap.size ≠ w.heap.size := (by have := s3.lt; omega); have hy' : w3.heap.size + 1 ≠ w.heap.size := (by have := s3.lt; omega); have hy0 : w2.heap.size < w3.heap.size := (by have := hb3.size; simp at this; omega); (try have hy1 : w2.heap.size + 1 < w3.heap.size := by have := hb3.size; simp at this; omega); (try have hy2 : w2.heap.size + 1 + 1 < w3.heap.size := by have := hb3.size; simp at this; omega); obtain ⟨hk3, hf3⟩ := Mw.bcell hb3 _ (Nat.le_refl _)))
      all_goals
        go_wp2_with fail
        go_meet
        exact ⟨_, _, rfl, rfl, by (repeat (first | with_reducible assumption | ((with_reducible refine Mw.Bk.new' ?_); (first | rfl | (simp; done) | (simp; omega))) | with_reducible refine Mw.Bk.alloc ?_ _ | with_reducible refine Mw.Bk.drew ?_ | with_reducible refine Mw.Bk.drewN ?_ _ | with_reducible refine Mw.Bk.set4 (a0 := .int .u32 0) (a1 := .int .u32 0) (a2 := .int .u32 0) (a3 := .int .u32 0) ?_ | ((with_reducible refine Mw.Bk.far ?_ ?_ _); rotate_left 1; focus (first | omega | (simp; done) | (simp; omega))) | with_reducible refine Mw.Bk.old ?_ (by assumption))), by (repeat (first | with_reducible assumption | ((with_reducible refine Mw.Bk.new' ?_); (first | rfl | (simp; done) | (simp; omega))) | with_reducible refine Mw.Bk.alloc ?_ _ | with_reducible refine Mw.Bk.drew ?_ | with_reducible refine Mw.Bk.drewN ?_ _ | with_reducible refine Mw.Bk.set4 (a0 := .int .u32 0) (a1 := .int .u32 0) (a2 := .int .u32 0) (a3 := .int .u32 0) ?_ | ((with_reducible refine Mw.Bk.far ?_ ?_ _); rotate_left 1; focus (first | omega | (simp; done) | (simp; omega))) | with_reducible refine Mw.Bk.old ?_ (by assumption))), by (repeat (first | with_reducible assumption | ((with_reducible refine Mw.Bk.new' ?_); (first | rfl | (simp; done) | (simp; omega))) | with_reducible refine Mw.Bk.alloc ?_ _ | with_reducible refine Mw.Bk.drew ?_ | with_reducible refine Mw.Bk.drewN ?_ _ | with_reducible refine Mw.Bk.set4 (a0 := .int .u32 0) (a1 := .int .u32 0) (a2 := .int .u32 0) (a3 := .int .u32 0) ?_ | ((with_reducible refine Mw.Bk.far ?_ ?_ _); rotate_left 1; focus (first | omega | (simp; done) | (simp; omega))) | with_reducible refine Mw.Bk.old ?_ (by assumption))), by (repeat (first | with_reducible assumption | ((with_reducible refine Mw.Bk.new' ?_); (first | rfl | (simp; done) | (simp; omega))) | with_reducible refine Mw.Bk.alloc ?_ _ | with_reducible refine Mw.Bk.drew ?_ | with_reducible refine Mw.Bk.drewN ?_ _ | with_reducible refine Mw.Bk.set4 (a0 := .int .u32 0) (a1 := .int .u32 0) (a2 := .int .u32 0) (a3 := .int .u32 0) ?_ | ((with_reducible refine Mw.Bk.far ?_ ?_ _); rotate_left 1; focus (first | omega | (simp; done) | (simp; omega))) | with_reducible refine Mw.Bk.old ?_ (by assumption))), by (repeat (first | with_reducible assumption | ((with_reducible refine Mw.Bk.new' ?_); (first | rfl | (simp; done) | (simp; omega))) | with_reducible refine Mw.Bk.alloc ?_ _ | with_reducible refine Mw.Bk.drew ?_ | with_reducible refine Mw.Bk.drewN ?_ _ | with_reducible refine Mw.Bk.set4 (a0 := .int .u32 0) (a1 := .int .u32 0) (a2 := .int .u32 0) (a3 := .int .u32 0) ?_ | ((with_reducible refine Mw.Bk.far ?_ ?_ _); rotate_left 1; focus (first | omega | (simp; done) | (simp; omega))) | with_reducible refine Mw.Bk.old ?_ (by assumption))), by (repeat (first | with_reducible exact Below.refl _ _ | with_reducible assumption | with_reducible refine bl_drewN ?_ _ | with_reducible refine Below.drew ?_ | with_reducible refine bl_alloc ?_ _ | ((with_reducible refine Below.setCell ?_ ?_ _); rotate_left 1; focus (first | omega | (simp; done) | (simp; omega))) | with_reducible refine bl_trans ?_ (by with_reducible assumption)))⟩
    case rest =>
      obtain ⟨g, h, rfl, rfl, bx, bY, bs, ba, bb, hbc⟩ := hcut
      clear k0 k1 k2 k3 n1 n2 n3 s1 s2 a2
      have l1 := bx.lt
      have l2 := bY.lt
      have l3 := bs.lt
      have l4 := ba.lt
      have l5 := bb.lt
      obtain ⟨x0, x1, x2, x3⟩ := bk4 bx
      obtain ⟨y0, y1, y2, y3⟩ := bk4 bY
      obtain ⟨z0, z1, z2, z3⟩ := bk4 bs
      obtain ⟨a0, a1, a2, a3⟩ := bk4 ba
      obtain ⟨b0, b1', b2', b3'⟩ := bk4 bb
      have HA := Lib.hid ((hA.below hbc).more hbc.size)
      have HB := Lib.hid ((hB.below hbc).more hbc.size)
      clear hA hB
      go_wp2_with fail
      refine Mm.region_ext (by kernel_rfl) (by kernel_rfl) ?_; (repeat (quiet_step ((first | (go_at_call 10; exact Mm.calls_ext (perm_i _ _ _ _ _)) | (go_at_call 14; exact Mm.calls_ext (rperm_i _ _ _ _ _)) | (go_at_call 15; exact Mm.calls_ext (words_any tag A c l _ (by omega) (rd_ext HA.out _))) | (go_at_call 16; exact Mm.calls_ext (numbers_any tag B d n _ (by omega) (rd_ext HB.out _))) | (go_at_call 17; exact Mm.calls_ext (rnumbers_any tag B d n _ (by omega) (rd_ext HB.out _))) | (go_at_call 18; exact Mm.calls_ext (bytes_any tag text _ (by omega))) | (go_at_call 19; exact Mm.calls_ext (rbytes_any tag text _ (by omega))) | (go_at_call 20; exact Mm.calls_ext (join_any s (words tag l) _)) | (go_at_call 21; exact Mm.calls_ext (rjoin_any s (words tag l) _)) | (go_at_call 7; exact Mm.calls_ext (text_any s _)) | (go_at_call 22; exact Mm.calls_ext (rtext_any s _)) | (go_at_call 9; exact Mm.calls_ext (sane_any _)))))); refine wpQuiet_nil ?_
      intro w5 hb5
      go_wp2_with fail
      go_ret
      exact ⟨rfl, bl_trans hbc hb5⟩
  · go_enter Try.func5, Try.ntmps5
    go_wp2_with (go_at_call 9; refine (sane_any _).mono ?_; rintro e w5 ⟨rfl, hb5⟩)
    all_goals (first | (exfalso; omega) | (go_ret; exact ⟨rfl, bl_trans (by (repeat (first | with_reducible exact Below.refl _ _ | with_reducible assumption | with_reducible refine bl_drewN ?_ _ | with_reducible refine Below.drew ?_ | with_reducible refine bl_alloc ?_ _ | ((with_reducible refine Below.setCell ?_ ?_ _); rotate_left 1; focus (first | omega | (simp; done) | (simp; omega))) | with_reducible refine bl_trans ?_ (by with_reducible assumption)))) hb5⟩))
end Go.Proofs.Ytoiipifoehfcdaa.Dg
