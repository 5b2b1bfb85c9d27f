/- Walks: Join of the program; the sanity check of the statements of this layer. -/
import Derived.Test.YtoiipifoehfcdaaDE
import Derived.WalkKit
import Derived.WalkSpells
import Derived.WalkLawsBesides
import Derived.Deep.QuietTactic
import Derived.BigQuiet
import Derived.Deep.Draws
import Derived.Deep.AppendLies
import Derived.Laws.OwnMore
import Derived.Laws.BytesArg
import Derived.Lib.Hide
import Derived.Deep.LoopGhost
namespace Go.Proofs.Ytoiipifoehfcdaa.Dg
open Go.RowKit

theorem parse_ok (s : ByteArray) (hs : s.size ≤ maxLen) (h : pok s) (w : World) :
    Calls Try.prog 8 #[.string s] w fun e w' => e = .returned (.tuple #[dv (pst s 32), .int .i64 0]) ∧ Below w.heap.size w w' :=
  (parse_any s hs w).mono fun _ _ ⟨⟨v, he, hv⟩, hb⟩ => ⟨by rcases hv with ⟨_, hv⟩ | ⟨hn, _⟩ <;> first | (rw [he, hv]; done) | exact absurd h hn, hb⟩
theorem parse_no (s : ByteArray) (hs : s.size ≤ maxLen) (h : ¬ pok s) (w : World) :
    Calls Try.prog 8 #[.string s] w fun e w' => e = .returned (.tuple #[dv (0, 0, 0, 0), .int .i64 7]) ∧ Below w.heap.size w w' :=
  (parse_any s hs w).mono fun _ _ ⟨⟨v, he, hv⟩, hb⟩ => ⟨by rcases hv with ⟨hn, _⟩ | ⟨_, hv⟩ <;> first | exact absurd hn h | (rw [he, hv]; done), hb⟩

theorem Rd.lit (W : World) (kd : IntKind) (T : TypeId) (l : List Int) : Rd (W.alloc (.cells (l.map (Value.int kd)).toArray T)) (W.heap.size + 1) kd (some ⟨W.heap.size, 0, none⟩) l := fun i hi => by
  refine ⟨_, _, rfl, by omega, ?_⟩
  rw [World.cell?_alloc_at _ _ _ _ rfl]
  simp [gi, List.getElem?_eq_getElem hi]

theorem Rd.lit' {W W0 : World} {B g : Nat} {kd : IntKind} {cs : Array Value} {T : TypeId} {l : List Int} (hW : W = W0.alloc (.cells cs T)) (hcs : (l.map (Value.int kd)).toArray = cs) (hg : g = W0.heap.size) (hB : g < B) :
    Rd W B kd (some ⟨g, 0, none⟩) l := by
  subst hW hcs hg
  exact fun i hi => by
    obtain ⟨b, off, e, hlt, hc⟩ := Rd.lit W0 kd T l i hi
    exact ⟨b, off, e, by cases e; exact hB, hc⟩

theorem Rd.more {w : World} {B B' : Nat} {kd : IntKind} {A : Option Addr} {l : List Int} (h : Rd w B kd A l) (hB : B ≤ B') : Rd w B' kd A l := fun i hi => by
  obtain ⟨b, off, e, hlt, hc⟩ := h i hi
  exact ⟨b, off, e, by omega, hc⟩

/-- The digest of two digests. -/
noncomputable def joinw (a b : St) : St := words 1 [a.1, a.2.1, a.2.2.1, a.2.2.2, b.1, b.2.1, b.2.2.1, b.2.2.2]

set_option maxHeartbeats 400000 in
theorem join_any (a b : St) (w : World) :
    Calls Try.prog 20 #[dv a, dv b] w fun e w' => e = .returned (dv (joinw a b)) ∧ Below w.heap.size w w' := by
  go_enter Try.func20, Try.ntmps20
  go_wp2_with fail
  refine (words_any 1 _ _ [a.1, a.2.1, a.2.2.1, a.2.2.2, b.1, b.2.1, b.2.2.1, b.2.2.2] _ (by simp) ?hr).mono ?_
  case hr => refine Rd.lit' rfl rfl ?_ ?_ <;> simp
  rintro e w1 ⟨rfl, hb1⟩
  have hZ : Blk4 w1 (w.heap.size + 2) (0, 0, 0, 0) := by
    refine Blk4.below ?_ hb1 (by simp)
    unfold Blk4; go_simp
  have hb2 : Below w.heap.size w w1 := Below.trans (by (repeat (first | with_reducible exact Below.refl _ _ | with_reducible refine bl_drewN ?_ _ | with_reducible refine Below.drew ?_ | with_reducible refine bl_alloc ?_ _ | with_reducible refine Below.alloc ?_ (by first | omega | (simp; done) | (simp; omega)) _ | with_reducible refine Below.setCell ?_ (by first | omega | (simp; done) | (simp; omega)) _ | with_reducible assumption))) (hb1.mono (by simp; omega))
  clear hb1
  obtain ⟨c0, c1, c2, c3, f0, f1, f2, f3⟩ := id hZ
  go_wp2
  refine bodyPost_ret (v := dv (joinw a b)) (by simp [results, Try.results20, go_sem, c0, c1, c2, c3, joinw]) rfl ⟨rfl, ?_⟩
  (repeat (first | with_reducible exact Below.refl _ _ | with_reducible refine bl_drewN ?_ _ | with_reducible refine Below.drew ?_ | with_reducible refine bl_alloc ?_ _ | with_reducible refine Below.alloc ?_ (by first | omega | (simp; done) | (simp; omega)) _ | with_reducible refine Below.setCell ?_ (by first | omega | (simp; done) | (simp; omega)) _ | with_reducible assumption))

end Go.Proofs.Ytoiipifoehfcdaa.Dg
