/- Walk: the statement ItemEnemies. -/
import Derived.Test.YthjaomnmgggjbaaTYn
import Derived.Test.YthjaomnmgggjbaaTI
import Derived.Test.YthjaomnmgggjbaaTEn
import Derived.WalkKit
import Derived.WalkSpells
import Derived.WalkLawsBesides
import Derived.Deep.QuietTactic
import Derived.BigQuiet
import Derived.Deep.Draws
import Derived.Deep.AppendLies
import Derived.Laws.OwnMore
import Derived.Laws.BytesArg
import Derived.Lib.Hide
import Derived.Deep.LoopGhost
namespace Go.Proofs.Ythjaomnmgggjbaa.Tm
open Go.RowKit Go.Proofs.Ythjaomnmgggjbaa.Mw
open Go.Proofs.Ythjaomnmgggjbaa.Mm (RC)
set_option linter.unusedVariables false

set_option maxHeartbeats 4000000 in
theorem enemies_any (l : List Int) (B : Option Addr) (cB : Nat) (w : World) (hl : l.length ≤ maxLen) (hlc : l.length ≤ cB) (hi : ∀ n ∈ l, I64 n) (hB : RdI w .i64 B l) :
    Calls Try.prog 7 #[.slice B l.length cB] w fun e w' => e = .returned (.bool true) ∧ Below w.heap.size w w' := by
  go_enter Try.func7, Try.ntmps7
  go_wp2_with fail
  refine (new_any l B cB _ hB hl hlc hi).mono ?_
  rintro e w1 ⟨rfl, ht1, hb1⟩
  have hlt1 := ht1.lt
  clear hB hi
  unfold maxLen at hl
  go_wp2_with fail
  refine (next_any w.heap.size 3 _ ht1 (by omega) (by omega)).mono ?_
  rintro e w2 ⟨v, hv, rfl, ht2, hg2⟩
  have hc2 : Below w.heap.size w w2 := bl_gb hb1 hg2 (Nat.le_refl _)
  clear hg2 ht1 hb1 hv
  go_wp2_with fail
  refine (item_any w.heap.size v 1 8 _ ht2 (by omega)).mono ?_
  rintro e w3 ⟨x, A, c, E, d, hx, hA, hE, hv, rfl, ht3, hg3⟩
  have hc3 : Below w.heap.size w (w3.alloc (.cells (itc x A c E d) 33)) := bl_alloc (bl_gb hc2 hg3 (Nat.le_refl _)) _
  have hB3 : Bk (w3.alloc (.cells (itc x A c E d) 33)) w3.heap.size 33 (itc x A c E d) := Bk.new' rfl
  have hx3 := hx.old ((Below.refl _ _).alloc (Nat.le_refl _) (.cells (itc x A c E d) 33))
  have ht3' := ht3.alloc (.cells (itc x A c E d) 33)
  have hlt3 := ht3.lt
  have hlt2 := ht2.lt
  replace hA : Away w.heap.size A := fun a ha => by have := hA a ha; omega
  replace hE : Away w.heap.size E := fun a ha => by have := hE a ha; omega
  clear hg3 ht2 hc2 hv hx ht3
  go_wp2_with fail
  refine (next_any w.heap.size 3 _ ht3' (by omega) (by omega)).mono ?_
  rintro e w4 ⟨u, hu, rfl, ht4, hg4⟩
  have hc4 : Below w.heap.size w w4 := bl_gb hc3 hg4 (Nat.le_refl _)
  have hB4 := hB3.kept hg4 (by omega)
  have hx4 := hx3.grown hg4 hA hE
  clear hc3 hB3 hx3 ht3' hg4 hu
  go_wp2_with fail
  refine (item_any w.heap.size u 1 8 _ ht4 (by omega)).mono ?_
  rintro e w5 ⟨y, A', c', E', d', hy, hA', hE', hv', rfl, ht5, hg5⟩
  have hc5 : Below w.heap.size w (w5.alloc (.cells (itc y A' c' E' d') 33)) := bl_alloc (bl_gb hc4 hg5 (Nat.le_refl _)) _
  have hB5 := (hB4.kept hg5 (by omega)).alloc (.cells (itc y A' c' E' d') 33)
  have hx5 := (hx4.grown hg5 hA hE).old ((Below.refl _ _).alloc (Nat.le_refl _) (.cells (itc y A' c' E' d') 33))
  have hy5 := hy.old ((Below.refl _ _).alloc (Nat.le_refl _) (.cells (itc y A' c' E' d') 33))
  have hC5 : Bk (w5.alloc (.cells (itc y A' c' E' d') 33)) w5.heap.size 33 (itc y A' c' E' d') := Bk.new' rfl
  clear hc4 hB4 hx4 hg5 hy hA hE hA' hE' hv' ht5 ht4
  go_upto_region 4 with fail
  generalize hW : w5.alloc (.cells (itc y A' c' E' d') 33) = W at *
  have R1 : RC 27 #[iv x A c E d, iv y A' c' E' d'] W (.bool (enm x y)) := RC.of fun V hV => enemy_any x y A c E d A' c' E' d' V (hx5.old hV) (hy5.old hV)
  have R2 : RC 28 #[iv x A c E d, iv y A' c' E' d'] W (.bool (enm x y)) := RC.of fun V hV => renemy_any x y A c E d A' c' E' d' V (hx5.old hV) (hy5.old hV)
  have R3 : RC 27 #[iv y A' c' E' d', iv x A c E d] W (.bool (enm x y)) := RC.of fun V hV => by rw [enm_comm]; exact enemy_any y x A' c' E' d' A c E d V (hy5.old hV) (hx5.old hV)
  have R4 : RC 27 #[iv x A c E d, iv x A c E d] W (.bool false) := RC.of fun V hV => by have := enemy_any x x A c E d A c E d V (hx5.old hV) (hx5.old hV); rwa [enm_self] at this
  have R5 : RC 14 #[] W (.bool true) := RC.of fun V _ => awake_any V
  generalize enm x y = p at R1 R2 R3
  obtain ⟨⟨k0, k1, k2, k3, k4⟩, _⟩ := bk5 hB5
  obtain ⟨⟨m0, m1, m2, m3, m4⟩, _⟩ := bk5 hC5
  have l1 := hB5.lt
  have l2 := hC5.lt
  clear hx5 hy5
  refine Mm.region_ext (by kernel_rfl) (by kernel_rfl) ?_; (repeat (first | go_big_quiet_step ((exact Mm.RC.call (by with_reducible assumption) _)) | quiet_step ((exact Mm.RC.call (by with_reducible assumption) _)))); refine wpQuiet_nil ?_
  intro w6 hb6
  go_wp2_with fail
  go_ret
  exact ⟨rfl, bl_trans hc5 hb6⟩
end Go.Proofs.Ythjaomnmgggjbaa.Tm
