/- Walks: the sanity check of the scheme statements. -/
import Derived.Test.YtokddjohdodkmaaHJ
import Derived.WalkKit
import Derived.WalkSpells
import Derived.WalkLawsBesides
import Derived.Deep.QuietTactic
import Derived.BigQuiet
import Derived.Deep.Draws
import Derived.Deep.AppendLies
import Derived.Laws.OwnMore
import Derived.Laws.BytesArg
import Derived.Lib.Hide
import Derived.Deep.LoopGhost
import Derived.Deep.CutBlock
import Derived.Laws.MakeOwn
import Derived.RegionTactic
namespace Go.Proofs.Ytokddjohdodkmaa.Tm
open Go.RowKit Go.Proofs.Ytokddjohdodkmaa.Mw
open Go.Proofs.Ytokddjohdodkmaa.Mm (RC)
set_option linter.unusedVariables false
set_option linter.unusedSimpArgs false

theorem rdk_bk {w : World} {g : Nat} {cs : Array Value} {T : TypeId} {ks : List Ky} (h : Bk w g T cs) (hcs : (ks.map kv).toArray = cs) (hk : ∀ i, i < ks.length → RdI w .i64 (gk ks i).A (gk ks i).l) : RdK w (some ⟨g, 0, none⟩) ks := by
  subst hcs
  intro i hi
  refine ⟨_, _, rfl, h.lt, ?_, hk i hi⟩
  rw [Nat.zero_add, h.cell, List.getElem?_toArray, List.getElem?_map, gk_lt ks i hi]
  rfl
theorem svAt_of {p : Pa} {s s' : Sc} (h1 : kls s.ks = kls s'.ks) (h2 : s.wd = s'.wd) : svAt p s = svAt p s' := by
  obtain ⟨a, b⟩ := kls_at h1
  funext i
  unfold svAt
  rw [b i, h2]
theorem sval_of {p : Pa} {s s' : Sc} (h1 : kls s.ks = kls s'.ks) (h2 : s.wd = s'.wd) : sval p s = sval p s' := by
  unfold sval svh
  rw [svAt_of h1 h2, (kls_at h1).1, h2]
theorem msum_of {p : Pa} {s s' : Sc} (h2 : s.wd = s'.wd) : ∀ k, msum p s k = msum p s' k
  | 0 => rfl
  | k + 1 => by unfold msum; rw [msum_of h2 k, h2]
theorem mxm_of {p : Pa} {s s' : Sc} (h1 : kls s.ks = kls s'.ks) (h2 : s.wd = s'.wd) : mxm p s = mxm p s' := by
  unfold mxm; rw [sval_of h1 h2, msum_of h2]
def PA (A : Option Addr) : Pa := ⟨0, 0, A, 2, [⟨1, 4, 0, 0, 0, 0⟩, ⟨2, 1, 0, 0, 4, 2⟩]⟩
def SA (K W : Option Addr) : Sc := ⟨K, 2, [⟨none, 0, []⟩, ⟨none, 0, []⟩], W, 2, [0, 0]⟩
def SB : Sc := ⟨none, 0, [⟨none, 0, []⟩, ⟨none, 0, []⟩], none, 0, [0, 2]⟩
theorem clo_A (A K W : Option Addr) : clo (PA A) (SA K W) [-1, 2] = ([-2, 1], 0) := by
  have : clo (PA none) (SA none none) [-1, 2] = ([-2, 1], 0) := by decide +kernel
  exact this
theorem ttl_A (A K W : Option Addr) : ttl (PA A) (SA K W) [3, 1] = (4, 0) := by
  have : ttl (PA none) (SA none none) [3, 1] = (4, 0) := by decide +kernel
  exact this
theorem wde_A (A K W : Option Addr) : wde (PA A) (SA K W) 1 2 = 0 := by
  have : wde (PA none) (SA none none) 1 2 = 0 := by decide +kernel
  exact this
theorem mxm_B (A : Option Addr) : mxm (PA A) SB = (4, 0) := by
  have : mxm (PA none) SB = (4, 0) := by decide +kernel
  exact this
set_option maxHeartbeats 2000000 in
set_option maxRecDepth 100000 in
theorem awake_any (w : World) : Calls Try.prog 19 #[] w fun e w' => e = .returned (.bool true) ∧ Below w.heap.size w w' := by
  go_enter Try.func19, Try.ntmps19
  go_wp2_with fail
  obtain ⟨V, hV⟩ : ∃ V, V = ((((((w.alloc (.cells #[.int .i64 1, .int .i64 4, .int .i64 0, .int .i64 0, .int .i64 0, .int .i64 0, .int .i64 2, .int .i64 1, .int .i64 0, .int .i64 0, .int .i64 4, .int .i64 2] 49)).alloc (.cells #[.int .i64 0, .int .i64 0, .slice (some ⟨w.heap.size, 0, none⟩) 2 2] 27)).alloc (.cells #[.slice none 0 0, .slice none 0 0] 22)).alloc (.cells #[.int .i64 0, .int .i64 0] 3)).alloc (.cells #[.slice (some ⟨w.heap.size + 1 + 1, 0, none⟩) 2 2, .slice (some ⟨w.heap.size + 1 + 1 + 1, 0, none⟩) 2 2] 31)).alloc (.cells #[.int .i64 (-1), .int .i64 2] 3)) := ⟨_, rfl⟩
  have hb0 : Below w.heap.size w V := by rw [hV]; (repeat (first | with_reducible exact Below.refl _ _ | with_reducible refine bl_drewN ?_ _ | with_reducible refine Below.drew ?_ | with_reducible refine bl_alloc ?_ _ | with_reducible refine Below.alloc ?_ (by first | omega | (simp; done) | (simp; omega)) _ | with_reducible refine Below.setCell ?_ (by first | omega | (simp; done) | (simp; omega)) _ | with_reducible assumption))
  have B0 : Bk V w.heap.size 49 #[.int .i64 1, .int .i64 4, .int .i64 0, .int .i64 0, .int .i64 0, .int .i64 0, .int .i64 2, .int .i64 1, .int .i64 0, .int .i64 0, .int .i64 4, .int .i64 2] := by rw [hV]; (repeat (first | ((with_reducible refine Bk.new' ?_); (first | rfl | (simp; done) | (simp; omega))) | with_reducible refine Bk.alloc ?_ _ | with_reducible refine Bk.drewN ?_ _ | with_reducible refine Bk.drew ?_ | with_reducible assumption))
  have B1 : Bk V (w.heap.size + 1) 27 #[.int .i64 0, .int .i64 0, .slice (some ⟨w.heap.size, 0, none⟩) 2 2] := by rw [hV]; (repeat (first | ((with_reducible refine Bk.new' ?_); (first | rfl | (simp; done) | (simp; omega))) | with_reducible refine Bk.alloc ?_ _ | with_reducible refine Bk.drewN ?_ _ | with_reducible refine Bk.drew ?_ | with_reducible assumption))
  have B2 : Bk V (w.heap.size + 1 + 1) 22 #[.slice none 0 0, .slice none 0 0] := by rw [hV]; (repeat (first | ((with_reducible refine Bk.new' ?_); (first | rfl | (simp; done) | (simp; omega))) | with_reducible refine Bk.alloc ?_ _ | with_reducible refine Bk.drewN ?_ _ | with_reducible refine Bk.drew ?_ | with_reducible assumption))
  have B3 : Bk V (w.heap.size + 1 + 1 + 1) 3 #[.int .i64 0, .int .i64 0] := by rw [hV]; (repeat (first | ((with_reducible refine Bk.new' ?_); (first | rfl | (simp; done) | (simp; omega))) | with_reducible refine Bk.alloc ?_ _ | with_reducible refine Bk.drewN ?_ _ | with_reducible refine Bk.drew ?_ | with_reducible assumption))
  have B4 : Bk V (w.heap.size + 1 + 1 + 1 + 1) 31 #[.slice (some ⟨w.heap.size + 1 + 1, 0, none⟩) 2 2, .slice (some ⟨w.heap.size + 1 + 1 + 1, 0, none⟩) 2 2] := by rw [hV]; (repeat (first | ((with_reducible refine Bk.new' ?_); (first | rfl | (simp; done) | (simp; omega))) | with_reducible refine Bk.alloc ?_ _ | with_reducible refine Bk.drewN ?_ _ | with_reducible refine Bk.drew ?_ | with_reducible assumption))
  have B5 : Bk V (w.heap.size + 1 + 1 + 1 + 1 + 1) 3 #[.int .i64 (-1), .int .i64 2] := by rw [hV]; (repeat (first | ((with_reducible refine Bk.new' ?_); (first | rfl | (simp; done) | (simp; omega))) | with_reducible refine Bk.alloc ?_ _ | with_reducible refine Bk.drewN ?_ _ | with_reducible refine Bk.drew ?_ | with_reducible assumption))
  rw [← hV]
  clear hV
  have hp : PaOk V (PA (some ⟨w.heap.size, 0, none⟩)) := ⟨RdP.bk B0 rfl, by simp [PA]⟩
  have hs : ScOk V (SA (some ⟨w.heap.size + 1 + 1, 0, none⟩) (some ⟨w.heap.size + 1 + 1 + 1, 0, none⟩)) := ⟨rdk_bk B2 rfl (fun i hi => by
    have : i = 0 ∨ i = 1 := by simp [SA] at hi; omega
    rcases this with rfl | rfl <;> exact RdI.nil _ _ _), RdI.bk B3 rfl, by simp [SA], by simp [SA], fun i hi => by
    have : i = 0 ∨ i = 1 := by simp [SA] at hi; omega
    rcases this with rfl | rfl <;> simp [SA, gk]⟩
  refine (closed_any (PA (some ⟨w.heap.size, 0, none⟩)) (SA (some ⟨w.heap.size + 1 + 1, 0, none⟩) (some ⟨w.heap.size + 1 + 1 + 1, 0, none⟩)) [-1, 2] (some ⟨w.heap.size + 1 + 1 + 1 + 1 + 1, 0, none⟩) 2 V hp hs (RdI.bk B5 rfl) (by decide)).mono ?_
  rw [clo_A]
  rintro e w1 ⟨M1, c1, rfl, hr1, -, -, hb1⟩
  have hc1 := bl_trans hb0 hb1
  have hp1 := hp.old hb1
  have hs1 := hs.old hb1
  have D1 := B1.old hb1
  have D4 := B4.old hb1
  clear hb0 hb1 hp hs B0 B1 B2 B3 B4 B5
  obtain ⟨k0, k1, k2⟩ := bk3' D1
  obtain ⟨⟨m0, m1⟩, -⟩ := bk2 D4
  have e1 := D1.lt
  have e4 := D4.lt
  go_wp2_with fail
  refine (total_any (PA (some ⟨w.heap.size, 0, none⟩)) (SA (some ⟨w.heap.size + 1 + 1, 0, none⟩) (some ⟨w.heap.size + 1 + 1 + 1, 0, none⟩)) [3, 1] (some ⟨w1.heap.size, 0, none⟩) 2 _ (hp1.alloc _) (hs1.alloc _) (RdI.bk (T := 3) (by exact Bk.new' rfl) rfl) (by decide)).mono ?_
  rw [ttl_A]
  rintro e w2 ⟨rfl, hb2⟩
  have hc2 := bl_trans (bl_alloc hc1 _) hb2
  have hp2 := (hp1.alloc _).old hb2
  have hs2 := (hs1.alloc _).old hb2
  have hr2 := (hr1.alloc _).old hb2
  have E1 := (D1.alloc _).old hb2
  have E4 := (D4.alloc _).old hb2
  clear hb2 hp1 hs1 hr1 D1 D4 k0 k1 k2 m0 m1 e1 e4 hc1
  obtain ⟨k0, k1, k2⟩ := bk3' E1
  obtain ⟨⟨m0, m1⟩, -⟩ := bk2 E4
  have e1 := E1.lt
  have e4 := E4.lt
  go_wp2_with fail
  refine (withdraw_any (PA (some ⟨w.heap.size, 0, none⟩)) (SA (some ⟨w.heap.size + 1 + 1, 0, none⟩) (some ⟨w.heap.size + 1 + 1 + 1, 0, none⟩)) 1 2 _ hp2 hs2).mono ?_
  rintro e w3 ⟨s', he, hs', hk', hw', hb3⟩
  rw [wde_A] at he
  subst he
  have hk2 : kls s'.ks = kls SB.ks := by rw [hk']; unfold wks; rw [if_pos (wde_A _ _ _)]; rfl
  have hw2 : s'.wd = SB.wd := by rw [hw']; unfold wwd; rw [if_pos (wde_A _ _ _)]; rfl
  have HX := Lib.hid ((mxm_of (p := PA (some ⟨w.heap.size, 0, none⟩)) hk2 hw2).trans (mxm_B _))
  have hc3 := bl_trans hc2 hb3
  have hp3 := hp2.old hb3
  have hr3 := hr2.old hb3
  have F1 := E1.old hb3
  clear hb3 hp2 hs2 hr2 E1 E4 k0 k1 k2 m0 m1 e1 e4 hc2 hk' hw' hk2 hw2
  obtain ⟨k0, k1, k2⟩ := bk3' F1
  have e1 := F1.lt
  go_wp2_with fail
  refine (maximum_any (PA (some ⟨w.heap.size, 0, none⟩)) s' _ (hp3.alloc _) (hs'.alloc _)).mono ?_
  rw [HX.out]
  rintro e w4 ⟨rfl, hb4⟩
  have hc4 := bl_trans (bl_alloc hc3 _) hb4
  have hr4 := (hr3.alloc _).old hb4
  clear hb4 hp3 hr3 F1 k0 k1 k2 e1 hc3
  go_wp2_with fail
  refine (ints_any [-2, 1] [-2, 1] M1 c1 (some ⟨w4.heap.size, 0, none⟩) 2 _ (by decide) (by decide) (hr4.alloc _) (RdI.bk (T := 3) (by exact Bk.new' rfl) rfl)).mono ?_
  rintro e w5 ⟨rfl, hb5⟩
  go_wp2_with fail
  go_ret
  exact ⟨rfl, bl_trans (bl_alloc hc4 _) hb5⟩
end Go.Proofs.Ytokddjohdodkmaa.Tm
