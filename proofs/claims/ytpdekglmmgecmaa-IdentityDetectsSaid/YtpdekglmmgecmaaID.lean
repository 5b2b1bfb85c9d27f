/- Walks: Parse of the program. -/
import Derived.Test.YtpdekglmmgecmaaIC
import Derived.Test.YtpdekglmmgecmaaMem
import Derived.WalkKit
import Derived.WalkSpells
import Derived.WalkLawsBesides
import Derived.Deep.QuietTactic
import Derived.BigQuiet
import Derived.Deep.Draws
import Derived.Deep.AppendLies
import Derived.Laws.OwnMore
import Derived.Laws.BytesArg
import Derived.Lib.Hide
import Derived.Deep.LoopGhost
import Derived.LoopN
namespace Go.Proofs.Ytpdekglmmgecmaa.Id
open Go.RowKit
set_option linter.unusedSimpArgs false

/-- Nine cells of a block hold the bytes b. -/
def Blk9 (w : World) (g : Nat) (b : Nat → Int) : Prop :=
  w.cell? ⟨g, 0, none⟩ = some (.int .u8 (b 0)) ∧ w.cell? ⟨g, 1, none⟩ = some (.int .u8 (b 1)) ∧ w.cell? ⟨g, 2, none⟩ = some (.int .u8 (b 2)) ∧ w.cell? ⟨g, 3, none⟩ = some (.int .u8 (b 3)) ∧
  w.cell? ⟨g, 4, none⟩ = some (.int .u8 (b 4)) ∧ w.cell? ⟨g, 5, none⟩ = some (.int .u8 (b 5)) ∧ w.cell? ⟨g, 6, none⟩ = some (.int .u8 (b 6)) ∧ w.cell? ⟨g, 7, none⟩ = some (.int .u8 (b 7)) ∧ w.cell? ⟨g, 8, none⟩ = some (.int .u8 (b 8))
theorem Blk9.below {w w' : World} {g B : Nat} {b : Nat → Int} (h : Blk9 w g b) (hb : Below B w w') (hg : g < B) : Blk9 w' g b := by
  have hc : ∀ o, w'.cell? ⟨g, o, none⟩ = w.cell? ⟨g, o, none⟩ := fun o => hb.cell (p := ⟨g, o, none⟩) hg
  unfold Blk9 at h ⊢
  simp only [hc]
  exact h
/-- Three cells of a block hold numbers and may be written. -/
def Blk3 (w : World) (g : Nat) (x y z : Int) : Prop :=
  w.cell? ⟨g, 0, none⟩ = some (.int .i64 x) ∧ w.cell? ⟨g, 1, none⟩ = some (.int .i64 y) ∧ w.cell? ⟨g, 2, none⟩ = some (.int .i64 z) ∧ w.frozen? ⟨g, 0, none⟩ = false ∧ w.frozen? ⟨g, 1, none⟩ = false ∧ w.frozen? ⟨g, 2, none⟩ = false
theorem Blk3.below {w w' : World} {g B : Nat} {x y z : Int} (h : Blk3 w g x y z) (hb : Below B w w') (hg : g < B) : Blk3 w' g x y z := by
  have hc : ∀ o, w'.cell? ⟨g, o, none⟩ = w.cell? ⟨g, o, none⟩ := fun o => hb.cell (p := ⟨g, o, none⟩) hg
  have hf : ∀ o, w'.frozen? ⟨g, o, none⟩ = w.frozen? ⟨g, o, none⟩ := fun o => hb.frozen (p := ⟨g, o, none⟩) hg
  unfold Blk3 at h ⊢
  simp only [hc, hf]
  exact h

/-- Eight bytes read as a number. -/
def pnum (b : Nat → Int) : Int := ((((((d8 (b 0) * 10 + d8 (b 1)) * 10 + d8 (b 2)) * 10 + d8 (b 3)) * 10 + d8 (b 4)) * 10 + d8 (b 5)) * 10 + d8 (b 6)) * 10 + d8 (b 7)

set_option maxHeartbeats 400000 in
theorem parse_size (s : ByteArray) (hs : s.size ≤ maxLen) (hl : s.size ≠ 9) (w : World) :
    Calls Try.prog 18 #[.string s] w fun e w' => e = .returned (.tuple #[idv 0 0 0, .int .i64 7]) ∧ Below w.heap.size w w' := by
  go_enter Try.func18, Try.ntmps18
  go_wp2_with fail
  refine (wordOf_no s hs hl _).mono ?_
  rintro e w1 ⟨rfl, hb1⟩
  obtain ⟨z0, z1, z2, y0, y1, y2⟩ : Blk3 w1 w.heap.size 0 0 0 := Blk3.below (by unfold Blk3; go_simp) hb1 (by simp)
  have hs1 : w.heap.size < w1.heap.size := by have := hb1.size; simp at this; omega
  have hc1 : Below w.heap.size w w1 := Below.trans (by (repeat (first | with_reducible exact Below.refl _ _ | with_reducible refine bl_drewN ?_ _ | with_reducible refine Below.drew ?_ | with_reducible refine bl_alloc ?_ _ | with_reducible refine Below.alloc ?_ (by first | omega | (simp; done) | (simp; omega)) _ | with_reducible refine Below.setCell ?_ (by first | omega | (simp; done) | (simp; omega)) _ | with_reducible assumption))) (hb1.mono (by simp))
  clear hb1
  go_wp2_with fail
  refine bodyPost_ret (v := .tuple #[idv 0 0 0, .int .i64 7]) (by simp [results, Try.results18, go_sem, z0, z1, z2, hs1]) rfl ⟨rfl, ?_⟩
  (repeat (first | with_reducible exact Below.refl _ _ | with_reducible refine bl_drewN ?_ _ | with_reducible refine Below.drew ?_ | with_reducible refine bl_alloc ?_ _ | with_reducible refine Below.alloc ?_ (by first | omega | (simp; done) | (simp; omega)) _ | with_reducible refine Below.setCell ?_ (by first | omega | (simp; done) | (simp; omega)) _ | with_reducible assumption))

set_option maxHeartbeats 400000 in
theorem parse_form (s : ByteArray) (hl : s.size = 9) (hf : formB (byt s) = false) (w : World) :
    Calls Try.prog 18 #[.string s] w fun e w' => e = .returned (.tuple #[idv 0 0 0, .int .i64 7]) ∧ Below w.heap.size w w' := by
  have HL := Lib.hid hl
  clear hl
  go_enter Try.func18, Try.ntmps18
  go_wp2_with fail
  refine (wordOf_yes s HL.out _).mono ?_
  rintro e w1 ⟨rfl, hb1⟩
  have hZ1 : Blk3 w1 w.heap.size 0 0 0 := Blk3.below (by unfold Blk3; go_simp) hb1 (by simp)
  have hs1 : w.heap.size < w1.heap.size := by have := hb1.size; simp at this; omega
  have hc1 : Below w.heap.size w w1 := Below.trans (by (repeat (first | with_reducible exact Below.refl _ _ | with_reducible refine bl_drewN ?_ _ | with_reducible refine Below.drew ?_ | with_reducible refine bl_alloc ?_ _ | with_reducible refine Below.alloc ?_ (by first | omega | (simp; done) | (simp; omega)) _ | with_reducible refine Below.setCell ?_ (by first | omega | (simp; done) | (simp; omega)) _ | with_reducible assumption))) (hb1.mono (by simp))
  clear hb1
  go_wp2_with fail
  refine (formed_any (byt s) (byt_bd s) _).mono ?_
  rintro e w2 ⟨rfl, hb2⟩
  obtain ⟨z0, z1, z2, y0, y1, y2⟩ : Blk3 w2 w.heap.size 0 0 0 := Blk3.below (hZ1.below ((Below.refl _ _).alloc (Nat.le_refl _) _) hs1) hb2 (by simp; omega)
  have hs2 : w.heap.size < w2.heap.size := by have := hb2.size; simp at this; omega
  have hc2 : Below w.heap.size w w2 := Below.trans (hc1.alloc hc1.size _) (hb2.mono (by have := hc1.size; simp; omega))
  clear hb2
  go_wp2_with fail
  refine bodyPost_ret (v := .tuple #[idv 0 0 0, .int .i64 7]) (by simp [results, Try.results18, go_sem, z0, z1, z2, hs2]) rfl ⟨rfl, ?_⟩
  (repeat (first | with_reducible exact Below.refl _ _ | with_reducible refine bl_drewN ?_ _ | with_reducible refine Below.drew ?_ | with_reducible refine bl_alloc ?_ _ | with_reducible refine Below.alloc ?_ (by first | omega | (simp; done) | (simp; omega)) _ | with_reducible refine Below.setCell ?_ (by first | omega | (simp; done) | (simp; omega)) _ | with_reducible assumption))

set_option maxHeartbeats 1000000 in
theorem parse_formed (s : ByteArray) (hl : s.size = 9) (hf : formB (byt s) = true) (w : World) :
    Calls Try.prog 18 #[.string s] w fun e w' =>
      e = .returned (if ltr (byt s) = byt s 8 then .tuple #[idv (pnum (byt s) / 1000000) (pnum (byt s) / 10000 % 100) (pnum (byt s) % 10000), .int .i64 0] else .tuple #[idv 0 0 0, .int .i64 24]) ∧ Below w.heap.size w w' := by
  have HL := Lib.hid hl
  clear hl
  obtain ⟨R, hR⟩ : ∃ R, (if ltr (byt s) = byt s 8 then Value.tuple #[idv (pnum (byt s) / 1000000) (pnum (byt s) / 10000 % 100) (pnum (byt s) % 10000), .int .i64 0] else .tuple #[idv 0 0 0, .int .i64 24]) = R := ⟨_, rfl⟩
  rw [hR]
  have HR := Lib.hid hR
  clear hR
  obtain ⟨b, hb⟩ : ∃ b, byt s = b := ⟨_, rfl⟩
  have h1 := wordOf_yes s HL.out
  have h2 := formed_any (byt s) (byt_bd s)
  rw [hb] at hf h1 h2 HR
  have H1 := Lib.hid h1
  have H2 := Lib.hid h2
  clear h1 h2 hb
  go_enter Try.func18, Try.ntmps18
  go_wp2_with fail
  refine (H1.out _).mono ?_
  rintro e w1 ⟨rfl, hb1⟩
  have hZ1 : Blk3 w1 w.heap.size 0 0 0 := Blk3.below (by unfold Blk3; go_simp) hb1 (by simp)
  have hs1 : w.heap.size < w1.heap.size := by have := hb1.size; simp at this; omega
  have hc1 : Below w.heap.size w w1 := Below.trans (by (repeat (first | with_reducible exact Below.refl _ _ | with_reducible refine bl_drewN ?_ _ | with_reducible refine Below.drew ?_ | with_reducible refine bl_alloc ?_ _ | with_reducible refine Below.alloc ?_ (by first | omega | (simp; done) | (simp; omega)) _ | with_reducible refine Below.setCell ?_ (by first | omega | (simp; done) | (simp; omega)) _ | with_reducible assumption))) (hb1.mono (by simp))
  clear hb1
  go_wp2_with fail
  refine (H2.out _).mono ?_
  rintro e w2 ⟨rfl, hb2⟩
  have hZ2 : Blk3 w2 w.heap.size 0 0 0 := Blk3.below (hZ1.below ((Below.refl _ _).alloc (Nat.le_refl _) _) hs1) hb2 (by simp; omega)
  have hB2 : Blk9 w2 w1.heap.size b := Blk9.below (by unfold Blk9; go_simp) hb2 (by simp)
  have hs2 : w1.heap.size < w2.heap.size := by have := hb2.size; simp at this; omega
  have hc2 : Below w.heap.size w w2 := Below.trans (hc1.alloc hc1.size _) (hb2.mono (by have := hc1.size; simp; omega))
  clear hb2 hZ1
  obtain ⟨c0, c1, c2, c3, c4, c5, c6, c7, c8⟩ := id hB2
  go_wp2_with fail
  refine Mm.region_ext (by kernel_rfl) (by kernel_rfl) ?_; (repeat (quiet_step ((go_at_call 28; exact Mm.calls_ext (letter_any b _))))); refine wpQuiet_nil ?_
  intro w3 hb3
  have hZ3 : Blk3 w3 w.heap.size 0 0 0 := hZ2.below hb3 (by omega)
  have hB3 : Blk9 w3 w1.heap.size b := hB2.below hb3 hs2
  have hs3 : w1.heap.size < w3.heap.size := by have := hb3.size; omega
  have hc3 : Below w.heap.size w w3 := hc2.trans (hb3.mono hc2.size)
  clear hb3 hZ2 hB2 c0 c1 c2 c3 c4 c5 c6 c7 c8
  obtain ⟨c0, c1, c2, c3, c4, c5, c6, c7, c8⟩ := id hB3
  obtain ⟨z0, z1, z2, y0, y1, y2⟩ := id hZ3
  have hs4 : w.heap.size < w3.heap.size := by omega
  by_cases hq : ltr b = b 8
  · have HR2 := Lib.hid ((if_pos hq).symm.trans HR.out)
    have hq' : (ltr b != b 8) = false := by simpa using hq
    have Hq := Lib.hid hq
    clear hq
    go_wp2_with fail
    refine wp_loop_rounds 9 ?_
    iterate 9 (rw [rounds_succ]; go_wp2_with fail)
    refine bodyPost_ret (v := .tuple #[idv (pnum b / 1000000) (pnum b / 10000 % 100) (pnum b % 10000), .int .i64 0]) (by simp [results, Try.results18, go_sem, z0, z1, z2, hs4, pnum, d8]) rfl ⟨by rw [HR2.out], ?_⟩
    (repeat (first | with_reducible exact Below.refl _ _ | with_reducible refine bl_drewN ?_ _ | with_reducible refine Below.drew ?_ | with_reducible refine bl_alloc ?_ _ | with_reducible refine Below.alloc ?_ (by first | omega | (simp; done) | (simp; omega)) _ | with_reducible refine Below.setCell ?_ (by first | omega | (simp; done) | (simp; omega)) _ | with_reducible assumption))
  · have HR2 := Lib.hid ((if_neg hq).symm.trans HR.out)
    have hq' : (ltr b != b 8) = true := by simpa using hq
    clear hq
    go_wp2_with fail
    refine bodyPost_ret (v := .tuple #[idv 0 0 0, .int .i64 24]) (by simp [results, Try.results18, go_sem, z0, z1, z2, hs4]) rfl ⟨by rw [HR2.out], ?_⟩
    (repeat (first | with_reducible exact Below.refl _ _ | with_reducible refine bl_drewN ?_ _ | with_reducible refine Below.drew ?_ | with_reducible refine bl_alloc ?_ _ | with_reducible refine Below.alloc ?_ (by first | omega | (simp; done) | (simp; omega)) _ | with_reducible refine Below.setCell ?_ (by first | omega | (simp; done) | (simp; omega)) _ | with_reducible assumption))
end Go.Proofs.Ytpdekglmmgecmaa.Id
