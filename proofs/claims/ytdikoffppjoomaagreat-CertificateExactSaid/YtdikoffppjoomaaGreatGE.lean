/- Walks: Words of the program and of the reference. -/
import Derived.Test.YtdikoffppjoomaaGreatDB
import Derived.WalkKit
import Derived.WalkSpells
import Derived.WalkLawsBesides
import Derived.Deep.QuietTactic
import Derived.BigQuiet
import Derived.Deep.Draws
import Derived.Deep.AppendLies
import Derived.Laws.OwnMore
import Derived.Laws.BytesArg
import Derived.Lib.Hide
import Derived.Deep.LoopGhost
namespace Go.Proofs.YtdikoffppjoomaaGreat.Dg
open Go.RowKit

/-- Element number i of a list of integers. -/
def gi (l : List Int) (i : Nat) : Int := l.getD i 0
/-- A slice value with address A that reads as a list of integers and lies below block B. -/
def Rd (w : World) (B : Nat) (kd : IntKind) (A : Option Addr) (l : List Int) : Prop :=
  ∀ i, i < l.length → ∃ b off, A = some ⟨b, off, none⟩ ∧ b < B ∧ w.cell? ⟨b, off + i, none⟩ = some (.int kd (gi l i))

theorem Rd.below {w w' : World} {B : Nat} {kd : IntKind} {A : Option Addr} {l : List Int} (h : Rd w B kd A l) (hb : Below B w w') : Rd w' B kd A l := fun i hi => by
  obtain ⟨b, off, e, hlt, hc⟩ := h i hi
  exact ⟨b, off, e, hlt, (hb.cell (p := ⟨b, off + i, none⟩) hlt).trans hc⟩

theorem bcell {W w1 : World} (hb : Below W.heap.size W w1) (n : Nat) (hn : n ≤ W.heap.size) : (∀ b o, b < n → w1.cell? ⟨b, o, none⟩ = W.cell? ⟨b, o, none⟩) ∧ (∀ b o, b < n → w1.frozen? ⟨b, o, none⟩ = W.frozen? ⟨b, o, none⟩) :=
  ⟨fun b o h => hb.cell (p := ⟨b, o, none⟩) (Nat.lt_of_lt_of_le h hn), fun b o h => hb.frozen (p := ⟨b, o, none⟩) (Nat.lt_of_lt_of_le h hn)⟩

/-- Four cells of a block hold a state and may be written. -/
def Blk4 (w : World) (g : Nat) (s : St) : Prop :=
  w.cell? ⟨g, 0, none⟩ = some (.int .u32 s.1) ∧ w.cell? ⟨g, 1, none⟩ = some (.int .u32 s.2.1) ∧ w.cell? ⟨g, 2, none⟩ = some (.int .u32 s.2.2.1) ∧ w.cell? ⟨g, 3, none⟩ = some (.int .u32 s.2.2.2) ∧
  w.frozen? ⟨g, 0, none⟩ = false ∧ w.frozen? ⟨g, 1, none⟩ = false ∧ w.frozen? ⟨g, 2, none⟩ = false ∧ w.frozen? ⟨g, 3, none⟩ = false

section
variable {w : World} {g : Nat} {s : St}
theorem Blk4.far (h : Blk4 w g s) {a : Addr} (hne : a.block ≠ g) (v : Value) : Blk4 (w.setCell a v) g s := by
  have hc : ∀ o, (w.setCell a v).cell? ⟨g, o, none⟩ = w.cell? ⟨g, o, none⟩ := fun o => World.cell?_setCell_other _ _ _ _ (fun e => hne (by rw [e]))
  unfold Blk4 at h ⊢
  simp only [hc, World.frozen?_setCell]
  exact h
theorem Blk4.set0 (h : Blk4 w g s) (v : Int) : Blk4 (w.setCell ⟨g, 0, none⟩ (.int .u32 v)) g (v, s.2) := by
  obtain ⟨c0, c1, c2, c3, f0, f1, f2, f3⟩ := h
  unfold Blk4
  simp only [World.frozen?_setCell]
  exact ⟨World.cell?_setCell_same _ _ _ c0, (World.cell?_setCell_other _ _ _ _ (by simp)).trans c1, (World.cell?_setCell_other _ _ _ _ (by simp)).trans c2, (World.cell?_setCell_other _ _ _ _ (by simp)).trans c3, f0, f1, f2, f3⟩
theorem Blk4.set1 (h : Blk4 w g s) (v : Int) : Blk4 (w.setCell ⟨g, 1, none⟩ (.int .u32 v)) g (s.1, v, s.2.2) := by
  obtain ⟨c0, c1, c2, c3, f0, f1, f2, f3⟩ := h
  unfold Blk4
  simp only [World.frozen?_setCell]
  exact ⟨(World.cell?_setCell_other _ _ _ _ (by simp)).trans c0, World.cell?_setCell_same _ _ _ c1, (World.cell?_setCell_other _ _ _ _ (by simp)).trans c2, (World.cell?_setCell_other _ _ _ _ (by simp)).trans c3, f0, f1, f2, f3⟩
theorem Blk4.set2 (h : Blk4 w g s) (v : Int) : Blk4 (w.setCell ⟨g, 2, none⟩ (.int .u32 v)) g (s.1, s.2.1, v, s.2.2.2) := by
  obtain ⟨c0, c1, c2, c3, f0, f1, f2, f3⟩ := h
  unfold Blk4
  simp only [World.frozen?_setCell]
  exact ⟨(World.cell?_setCell_other _ _ _ _ (by simp)).trans c0, (World.cell?_setCell_other _ _ _ _ (by simp)).trans c1, World.cell?_setCell_same _ _ _ c2, (World.cell?_setCell_other _ _ _ _ (by simp)).trans c3, f0, f1, f2, f3⟩
theorem Blk4.set3 (h : Blk4 w g s) (v : Int) : Blk4 (w.setCell ⟨g, 3, none⟩ (.int .u32 v)) g (s.1, s.2.1, s.2.2.1, v) := by
  obtain ⟨c0, c1, c2, c3, f0, f1, f2, f3⟩ := h
  unfold Blk4
  simp only [World.frozen?_setCell]
  exact ⟨(World.cell?_setCell_other _ _ _ _ (by simp)).trans c0, (World.cell?_setCell_other _ _ _ _ (by simp)).trans c1, (World.cell?_setCell_other _ _ _ _ (by simp)).trans c2, World.cell?_setCell_same _ _ _ c3, f0, f1, f2, f3⟩
theorem Blk4.below {w' : World} {B : Nat} (h : Blk4 w g s) (hb : Below B w w') (hg : g < B) : Blk4 w' g s := by
  have hc : ∀ o, w'.cell? ⟨g, o, none⟩ = w.cell? ⟨g, o, none⟩ := fun o => hb.cell (p := ⟨g, o, none⟩) hg
  have hf : ∀ o, w'.frozen? ⟨g, o, none⟩ = w.frozen? ⟨g, o, none⟩ := fun o => hb.frozen (p := ⟨g, o, none⟩) hg
  unfold Blk4 at h ⊢
  simp only [hc, hf]
  exact h
end

/-- One step of Words: two words x, y into the state. -/
noncomputable def wstep (s : St) (x y : Int) : St :=
  let p := perm (xor32 s.1 x, xor32 s.2.1 y, s.2.2.1, s.2.2.2)
  (p.1, p.2.1, xor32 p.2.2.1 x, xor32 p.2.2.2 y)
/-- The state after m steps. -/
noncomputable def wst (tag : Int) (l : List Int) : Nat → St
  | 0 => (1702391089, 1651466610, tag, (l.length : Int) % 4294967296)
  | m + 1 => wstep (wst tag l m) (gi l (2 * m)) (gi l (2 * m + 1))
/-- The digest of a list of words. -/
noncomputable def words (tag : Int) (l : List Int) : St :=
  let s := wst tag l ((l.length + 1) / 2)
  perm (perm (s.1, s.2.1, xor32 s.2.2.1 4294967295, s.2.2.2))

attribute [local go_sem] bits_xor

theorem words_end (tag : Int) (l : List Int) (m : Nat) (h : ¬ 2 * m < l.length) (h2 : 2 * m ≤ l.length + 1) :
    words tag l = perm (perm ((wst tag l m).1, (wst tag l m).2.1, xor32 (wst tag l m).2.2.1 4294967295, (wst tag l m).2.2.2)) := by
  have : (l.length + 1) / 2 = m := by omega
  unfold words; rw [this]
theorem gi_past (l : List Int) (i : Nat) (h : ¬ i < l.length) : gi l i = 0 := by
  unfold gi; rw [List.getD_eq_getElem?_getD, List.getElem?_eq_none (by omega)]; rfl
theorem wst_odd (tag : Int) (l : List Int) (m : Nat) (h : ¬ 2 * m + 1 < l.length) : wst tag l (m + 1) = wstep (wst tag l m) (gi l (2 * m)) 0 := by
  show wstep _ _ _ = _
  rw [gi_past l _ h]

set_option maxHeartbeats 1000000 in
theorem words_any (tag : Int) (A : Option Addr) (c : Nat) (l : List Int) (w : World) (hl : l.length < 1099511627776) (hr : Rd w w.heap.size .u32 A l) :
    Calls Tryz.prog 88 #[.int .u32 tag, .slice A l.length c] w fun e w' => e = .returned (dv (words tag l)) ∧ Below w.heap.size w w' := by
  go_enter Tryz.func88, Tryz.ntmps88
  go_wp2_with fail
  go_loopw [6] (fun i wr => ∃ m : Nat, 2 * m ≤ l.length + 1 ∧ i = .int .i64 ((2 * m : Nat) : Int) ∧ Blk4 wr (w.heap.size + 1) (wst tag l m) ∧ Blk4 wr w.heap.size (0, 0, 0, 0) ∧ w.heap.size + 1 < wr.heap.size ∧ Below w.heap.size w wr) (fun i _ => l.length + 2 - (intOf i).toNat)
  case atStart =>
    refine ⟨0, by omega, rfl, ?_, ?_, by simp, by (repeat (first | with_reducible exact Below.refl _ _ | with_reducible refine bl_drewN ?_ _ | with_reducible refine Below.drew ?_ | with_reducible refine bl_alloc ?_ _ | with_reducible refine Below.alloc ?_ (by first | omega | (simp; done) | (simp; omega)) _ | with_reducible refine Below.setCell ?_ (by first | omega | (simp; done) | (simp; omega)) _ | with_reducible assumption))⟩
    · unfold Blk4 wst; go_simp
    · unfold Blk4; go_simp
  case round =>
    obtain ⟨m, hm, rfl, hB, hZ, hsz, hb⟩ := hrel
    obtain ⟨c0, c1, c2, c3, f0, f1, f2, f3⟩ := id hB
    by_cases hlt : 2 * m < l.length
    · obtain ⟨b, off, rfl, hbl, hc⟩ := (hr.below hb) (2 * m) hlt
      by_cases hlt1 : 2 * m + 1 < l.length
      · obtain ⟨b', off', heq, hbl', hc'⟩ := (hr.below hb) (2 * m + 1) hlt1
        cases heq
        go_wp2_with fail
        refine (perm_i _ _ _ _ _).mono ?_
        rintro e w2 ⟨rfl, hb2⟩
        have hB2 := ((hB.set0 _).set1 _).below hb2 (by simp; omega)
        have hZ2 := ((hZ.far (a := ⟨w.heap.size + 1, 0, none⟩) (by simp) _).far (a := ⟨w.heap.size + 1, 1, none⟩) (by simp) _).below hb2 (by simp; omega)
        have hsz2 : wr.heap.size ≤ w2.heap.size := by have := hb2.size; simpa using this
        have hb3 : Below w.heap.size w w2 := Below.trans (by (repeat (first | with_reducible exact Below.refl _ _ | with_reducible refine bl_drewN ?_ _ | with_reducible refine Below.drew ?_ | with_reducible refine bl_alloc ?_ _ | with_reducible refine Below.alloc ?_ (by first | omega | (simp; done) | (simp; omega)) _ | with_reducible refine Below.setCell ?_ (by first | omega | (simp; done) | (simp; omega)) _ | with_reducible assumption))) (hb2.mono (by simp; omega))
        clear hb2 c0 c1 c2 c3 f0 f1 f2 f3 hc hc' hB hZ hb
        obtain ⟨c0, c1, c2, c3, f0, f1, f2, f3⟩ := id hB2
        go_wp2
        go_roundw
        case rel =>
          refine ⟨m + 1, by omega, by go_num, ?_, ?_, by simp; omega, by (repeat (first | with_reducible exact Below.refl _ _ | with_reducible refine bl_drewN ?_ _ | with_reducible refine Below.drew ?_ | with_reducible refine bl_alloc ?_ _ | with_reducible refine Below.alloc ?_ (by first | omega | (simp; done) | (simp; omega)) _ | with_reducible refine Below.setCell ?_ (by first | omega | (simp; done) | (simp; omega)) _ | with_reducible assumption))⟩
          · exact (((((hB2.set0 _).set1 _).set2 _).set3 _).set2 _).set3 _
          · exact (((((hZ2.far (by simp) _).far (by simp) _).far (by simp) _).far (by simp) _).far (by simp) _).far (by simp) _
        case measure => simp [intOf]; omega
      · have Hodd := Lib.hid (wst_odd tag l m hlt1)
        go_wp2_with fail
        refine (perm_i _ _ _ _ _).mono ?_
        rintro e w2 ⟨rfl, hb2⟩
        have hB2 := ((hB.set0 _).set1 _).below hb2 (by simp; omega)
        have hZ2 := ((hZ.far (a := ⟨w.heap.size + 1, 0, none⟩) (by simp) _).far (a := ⟨w.heap.size + 1, 1, none⟩) (by simp) _).below hb2 (by simp; omega)
        have hsz2 : wr.heap.size ≤ w2.heap.size := by have := hb2.size; simpa using this
        have hb3 : Below w.heap.size w w2 := Below.trans (by (repeat (first | with_reducible exact Below.refl _ _ | with_reducible refine bl_drewN ?_ _ | with_reducible refine Below.drew ?_ | with_reducible refine bl_alloc ?_ _ | with_reducible refine Below.alloc ?_ (by first | omega | (simp; done) | (simp; omega)) _ | with_reducible refine Below.setCell ?_ (by first | omega | (simp; done) | (simp; omega)) _ | with_reducible assumption))) (hb2.mono (by simp; omega))
        clear hb2 c0 c1 c2 c3 f0 f1 f2 f3 hc hB hZ hb
        obtain ⟨c0, c1, c2, c3, f0, f1, f2, f3⟩ := id hB2
        go_wp2
        go_roundw
        case rel =>
          refine ⟨m + 1, by omega, by go_num, ?_, ?_, by simp; omega, by (repeat (first | with_reducible exact Below.refl _ _ | with_reducible refine bl_drewN ?_ _ | with_reducible refine Below.drew ?_ | with_reducible refine bl_alloc ?_ _ | with_reducible refine Below.alloc ?_ (by first | omega | (simp; done) | (simp; omega)) _ | with_reducible refine Below.setCell ?_ (by first | omega | (simp; done) | (simp; omega)) _ | with_reducible assumption))⟩
          · rw [Hodd.out]
            exact (((((hB2.set0 _).set1 _).set2 _).set3 _).set2 _).set3 _
          · exact (((((hZ2.far (by simp) _).far (by simp) _).far (by simp) _).far (by simp) _).far (by simp) _).far (by simp) _
        case measure => simp [intOf]; omega
    · have Hend := Lib.hid (words_end tag l m hlt hm)
      go_wp2_with fail
      refine (perm_i _ _ _ _ _).mono ?_
      rintro e w2 ⟨rfl, hb2⟩
      have hZ2 := (hZ.far (a := ⟨w.heap.size + 1, 2, none⟩) (by simp) _).below hb2 (by simp; omega)
      have hsz2 : wr.heap.size ≤ w2.heap.size := by have := hb2.size; simpa using this
      have hb3 : Below w.heap.size w w2 := Below.trans (by (repeat (first | with_reducible exact Below.refl _ _ | with_reducible refine bl_drewN ?_ _ | with_reducible refine Below.drew ?_ | with_reducible refine bl_alloc ?_ _ | with_reducible refine Below.alloc ?_ (by first | omega | (simp; done) | (simp; omega)) _ | with_reducible refine Below.setCell ?_ (by first | omega | (simp; done) | (simp; omega)) _ | with_reducible assumption))) (hb2.mono (by simp; omega))
      clear hb2 hZ hb c0 c1 c2 c3 f0 f1 f2 f3
      go_wp2_with fail
      refine (perm_i _ _ _ _ _).mono ?_
      rintro e w4 ⟨rfl, hb4⟩
      have hZ4 := hZ2.below hb4 (by omega)
      have hb5 : Below w.heap.size w w4 := hb3.trans (hb4.mono (by omega))
      clear hb4 hZ2 hb3
      obtain ⟨c0, c1, c2, c3, f0, f1, f2, f3⟩ := id hZ4
      go_wp2
      refine bodyPost_ret (v := dv (words tag l)) (by rw [Hend.out]; simp [results, Tryz.results88, go_sem, c0, c1, c2, c3]) rfl ⟨rfl, ?_⟩
      (repeat (first | with_reducible exact Below.refl _ _ | with_reducible refine bl_drewN ?_ _ | with_reducible refine Below.drew ?_ | with_reducible refine bl_alloc ?_ _ | with_reducible refine Below.alloc ?_ (by first | omega | (simp; done) | (simp; omega)) _ | with_reducible refine Below.setCell ?_ (by first | omega | (simp; done) | (simp; omega)) _ | with_reducible assumption))

set_option maxHeartbeats 1000000 in
theorem rwords_any (tag : Int) (A : Option Addr) (c : Nat) (l : List Int) (w : World) (hl : l.length < 1099511627776) (hr : Rd w w.heap.size .u32 A l) :
    Calls Tryz.prog 101 #[.int .u32 tag, .slice A l.length c] w fun e w' => e = .returned (dv (words tag l)) ∧ Below w.heap.size w w' := by
  go_enter Tryz.func101, Tryz.ntmps101
  go_wp2_with fail
  go_loopw [6] (fun i wr => ∃ m : Nat, 2 * m ≤ l.length + 1 ∧ i = .int .i64 ((2 * m : Nat) : Int) ∧ Blk4 wr (w.heap.size + 1) (wst tag l m) ∧ Blk4 wr w.heap.size (0, 0, 0, 0) ∧ w.heap.size + 1 < wr.heap.size ∧ Below w.heap.size w wr) (fun i _ => l.length + 2 - (intOf i).toNat)
  case atStart =>
    refine ⟨0, by omega, rfl, ?_, ?_, by simp, by (repeat (first | with_reducible exact Below.refl _ _ | with_reducible refine bl_drewN ?_ _ | with_reducible refine Below.drew ?_ | with_reducible refine bl_alloc ?_ _ | with_reducible refine Below.alloc ?_ (by first | omega | (simp; done) | (simp; omega)) _ | with_reducible refine Below.setCell ?_ (by first | omega | (simp; done) | (simp; omega)) _ | with_reducible assumption))⟩
    · unfold Blk4 wst; go_simp
    · unfold Blk4; go_simp
  case round =>
    obtain ⟨m, hm, rfl, hB, hZ, hsz, hb⟩ := hrel
    obtain ⟨c0, c1, c2, c3, f0, f1, f2, f3⟩ := id hB
    by_cases hlt : 2 * m < l.length
    · obtain ⟨b, off, rfl, hbl, hc⟩ := (hr.below hb) (2 * m) hlt
      by_cases hlt1 : 2 * m + 1 < l.length
      · obtain ⟨b', off', heq, hbl', hc'⟩ := (hr.below hb) (2 * m + 1) hlt1
        cases heq
        go_wp2_with fail
        refine (rperm_i _ _ _ _ _).mono ?_
        rintro e w2 ⟨rfl, hb2⟩
        have hB2 := ((hB.set0 _).set1 _).below hb2 (by simp; omega)
        have hZ2 := ((hZ.far (a := ⟨w.heap.size + 1, 0, none⟩) (by simp) _).far (a := ⟨w.heap.size + 1, 1, none⟩) (by simp) _).below hb2 (by simp; omega)
        have hsz2 : wr.heap.size ≤ w2.heap.size := by have := hb2.size; simpa using this
        have hb3 : Below w.heap.size w w2 := Below.trans (by (repeat (first | with_reducible exact Below.refl _ _ | with_reducible refine bl_drewN ?_ _ | with_reducible refine Below.drew ?_ | with_reducible refine bl_alloc ?_ _ | with_reducible refine Below.alloc ?_ (by first | omega | (simp; done) | (simp; omega)) _ | with_reducible refine Below.setCell ?_ (by first | omega | (simp; done) | (simp; omega)) _ | with_reducible assumption))) (hb2.mono (by simp; omega))
        clear hb2 c0 c1 c2 c3 f0 f1 f2 f3 hc hc' hB hZ hb
        obtain ⟨c0, c1, c2, c3, f0, f1, f2, f3⟩ := id hB2
        go_wp2
        go_roundw
        case rel =>
          refine ⟨m + 1, by omega, by go_num, ?_, ?_, by simp; omega, by (repeat (first | with_reducible exact Below.refl _ _ | with_reducible refine bl_drewN ?_ _ | with_reducible refine Below.drew ?_ | with_reducible refine bl_alloc ?_ _ | with_reducible refine Below.alloc ?_ (by first | omega | (simp; done) | (simp; omega)) _ | with_reducible refine Below.setCell ?_ (by first | omega | (simp; done) | (simp; omega)) _ | with_reducible assumption))⟩
          · exact (((((hB2.set0 _).set1 _).set2 _).set3 _).set2 _).set3 _
          · exact (((((hZ2.far (by simp) _).far (by simp) _).far (by simp) _).far (by simp) _).far (by simp) _).far (by simp) _
        case measure => simp [intOf]; omega
      · have Hodd := Lib.hid (wst_odd tag l m hlt1)
        go_wp2_with fail
        refine (rperm_i _ _ _ _ _).mono ?_
        rintro e w2 ⟨rfl, hb2⟩
        have hB2 := ((hB.set0 _).set1 _).below hb2 (by simp; omega)
        have hZ2 := ((hZ.far (a := ⟨w.heap.size + 1, 0, none⟩) (by simp) _).far (a := ⟨w.heap.size + 1, 1, none⟩) (by simp) _).below hb2 (by simp; omega)
        have hsz2 : wr.heap.size ≤ w2.heap.size := by have := hb2.size; simpa using this
        have hb3 : Below w.heap.size w w2 := Below.trans (by (repeat (first | with_reducible exact Below.refl _ _ | with_reducible refine bl_drewN ?_ _ | with_reducible refine Below.drew ?_ | with_reducible refine bl_alloc ?_ _ | with_reducible refine Below.alloc ?_ (by first | omega | (simp; done) | (simp; omega)) _ | with_reducible refine Below.setCell ?_ (by first | omega | (simp; done) | (simp; omega)) _ | with_reducible assumption))) (hb2.mono (by simp; omega))
        clear hb2 c0 c1 c2 c3 f0 f1 f2 f3 hc hB hZ hb
        obtain ⟨c0, c1, c2, c3, f0, f1, f2, f3⟩ := id hB2
        go_wp2
        go_roundw
        case rel =>
          refine ⟨m + 1, by omega, by go_num, ?_, ?_, by simp; omega, by (repeat (first | with_reducible exact Below.refl _ _ | with_reducible refine bl_drewN ?_ _ | with_reducible refine Below.drew ?_ | with_reducible refine bl_alloc ?_ _ | with_reducible refine Below.alloc ?_ (by first | omega | (simp; done) | (simp; omega)) _ | with_reducible refine Below.setCell ?_ (by first | omega | (simp; done) | (simp; omega)) _ | with_reducible assumption))⟩
          · rw [Hodd.out]
            exact (((((hB2.set0 _).set1 _).set2 _).set3 _).set2 _).set3 _
          · exact (((((hZ2.far (by simp) _).far (by simp) _).far (by simp) _).far (by simp) _).far (by simp) _).far (by simp) _
        case measure => simp [intOf]; omega
    · have Hend := Lib.hid (words_end tag l m hlt hm)
      go_wp2_with fail
      refine (rperm_i _ _ _ _ _).mono ?_
      rintro e w2 ⟨rfl, hb2⟩
      have hZ2 := (hZ.far (a := ⟨w.heap.size + 1, 2, none⟩) (by simp) _).below hb2 (by simp; omega)
      have hsz2 : wr.heap.size ≤ w2.heap.size := by have := hb2.size; simpa using this
      have hb3 : Below w.heap.size w w2 := Below.trans (by (repeat (first | with_reducible exact Below.refl _ _ | with_reducible refine bl_drewN ?_ _ | with_reducible refine Below.drew ?_ | with_reducible refine bl_alloc ?_ _ | with_reducible refine Below.alloc ?_ (by first | omega | (simp; done) | (simp; omega)) _ | with_reducible refine Below.setCell ?_ (by first | omega | (simp; done) | (simp; omega)) _ | with_reducible assumption))) (hb2.mono (by simp; omega))
      clear hb2 hZ hb c0 c1 c2 c3 f0 f1 f2 f3
      go_wp2_with fail
      refine (rperm_i _ _ _ _ _).mono ?_
      rintro e w4 ⟨rfl, hb4⟩
      have hZ4 := hZ2.below hb4 (by omega)
      have hb5 : Below w.heap.size w w4 := hb3.trans (hb4.mono (by omega))
      clear hb4 hZ2 hb3
      obtain ⟨c0, c1, c2, c3, f0, f1, f2, f3⟩ := id hZ4
      go_wp2
      refine bodyPost_ret (v := dv (words tag l)) (by rw [Hend.out]; simp [results, Tryz.results101, go_sem, c0, c1, c2, c3]) rfl ⟨rfl, ?_⟩
      (repeat (first | with_reducible exact Below.refl _ _ | with_reducible refine bl_drewN ?_ _ | with_reducible refine Below.drew ?_ | with_reducible refine bl_alloc ?_ _ | with_reducible refine Below.alloc ?_ (by first | omega | (simp; done) | (simp; omega)) _ | with_reducible refine Below.setCell ?_ (by first | omega | (simp; done) | (simp; omega)) _ | with_reducible assumption))

end Go.Proofs.YtdikoffppjoomaaGreat.Dg
