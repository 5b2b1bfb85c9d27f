/- Walks: Leaf, Split, Join of the program and of the reference. -/
import Derived.Test.YtdikoffppjoomaaRM
import Derived.Test.YtdikoffppjoomaaGR
import Derived.Test.YtdikoffppjoomaaMem
import Derived.Test.YtdikoffppjoomaaShelf
import Derived.WalkKit
import Derived.WalkSpells
import Derived.WalkLawsBesides
import Derived.Deep.QuietTactic
import Derived.BigQuiet
import Derived.Deep.Draws
import Derived.Deep.AppendLies
import Derived.Laws.OwnMore
import Derived.Laws.BytesArg
import Derived.Lib.Hide
import Derived.Deep.LoopGhost
import Derived.OwnWalk
import Derived.Deep.RegionLaw
import Derived.RegionTactic
namespace Go.Proofs.Ytdikoffppjoomaa.Tr
open Go.RowKit Go.Proofs.Ytdikoffppjoomaa.Dg
open Go.Proofs.Ytdikoffppjoomaa.Mw (I64 ret_int ret_bool Bk bl_trans own_ints)
set_option linter.unusedVariables false
set_option linter.unusedSimpArgs false

abbrev c4 (s : St) : Array Value := #[.int .u32 s.1, .int .u32 s.2.1, .int .u32 s.2.2.1, .int .u32 s.2.2.2]
theorem bk4 {w : World} {g : Nat} {T : TypeId} {a b c d : Value} (h : Bk w g T #[a, b, c, d]) : (w.cell? ⟨g, 0, none⟩ = some a ∧ w.cell? ⟨g, 1, none⟩ = some b ∧ w.cell? ⟨g, 2, none⟩ = some c ∧ w.cell? ⟨g, 3, none⟩ = some d) ∧ w.frozen? ⟨g, 0, none⟩ = false ∧ w.frozen? ⟨g, 1, none⟩ = false ∧ w.frozen? ⟨g, 2, none⟩ = false ∧ w.frozen? ⟨g, 3, none⟩ = false := ⟨⟨h.cell 0, h.cell 1, h.cell 2, h.cell 3⟩, h.frozen 0, h.frozen 1, h.frozen 2, h.frozen 3⟩
theorem rd_bk {w : World} {g : Nat} {T : TypeId} {l : List Int} {cs : Array Value} (h : Bk w g T cs) (hcs : (l.map (Value.int .u32)).toArray = cs) : Rd w w.heap.size .u32 (some ⟨g, 0, none⟩) l := Mw.RdI.bk h hcs

set_option maxHeartbeats 400000 in
theorem leaf_any (d : St) (w : World) : Calls Try.prog 62 #[dv d] w fun e w' => e = .returned (dv (leaf d)) ∧ Below w.heap.size w w' := by
  go_enter Try.func62, Try.ntmps62
  go_wp2_with fail
  refine (words_any 0 _ _ [d.1, d.2.1, d.2.2.1, d.2.2.2] _ (by simp) (rd_bk (T := 50) (cs := c4 d) (by (repeat (first | ((with_reducible refine Mw.Bk.new' ?_); (first | rfl | (simp; done) | (simp; omega))) | with_reducible refine Mw.Bk.alloc ?_ _ | with_reducible refine Mw.Bk.drewN ?_ _ | with_reducible refine Mw.Bk.drew ?_ | with_reducible assumption))) rfl)).mono ?_
  rintro e w1 ⟨rfl, hb1⟩
  have hZ : Bk w1 (w.heap.size + 1) 50 #[.int .u32 0, .int .u32 0, .int .u32 0, .int .u32 0] := Mw.Bk.old (by (repeat (first | ((with_reducible refine Mw.Bk.new' ?_); (first | rfl | (simp; done) | (simp; omega))) | with_reducible refine Mw.Bk.alloc ?_ _ | with_reducible refine Mw.Bk.drewN ?_ _ | with_reducible refine Mw.Bk.drew ?_ | with_reducible assumption))) hb1
  have hc1 : Below w.heap.size w w1 := bl_trans (by (repeat (first | with_reducible exact Below.refl _ _ | with_reducible refine bl_drewN ?_ _ | with_reducible refine Below.drew ?_ | with_reducible refine bl_alloc ?_ _ | with_reducible refine Below.alloc ?_ (by first | omega | (simp; done) | (simp; omega)) _ | with_reducible refine Below.setCell ?_ (by first | omega | (simp; done) | (simp; omega)) _ | with_reducible assumption))) hb1
  clear hb1
  obtain ⟨⟨k0, k1, k2, k3⟩, f0, f1, f2, f3⟩ := bk4 hZ
  go_wp2_with fail
  refine bodyPost_ret (v := dv (leaf d)) (by simp [results, Try.results62, go_sem, k0, k1, k2, k3, leaf]) rfl ⟨rfl, ?_⟩
  (repeat (first | with_reducible exact Below.refl _ _ | with_reducible refine bl_drewN ?_ _ | with_reducible refine Below.drew ?_ | with_reducible refine bl_alloc ?_ _ | with_reducible refine Below.alloc ?_ (by first | omega | (simp; done) | (simp; omega)) _ | with_reducible refine Below.setCell ?_ (by first | omega | (simp; done) | (simp; omega)) _ | with_reducible assumption))
theorem bitLen_pos : ∀ (f x : Nat), x < 2 ^ f → 0 < x → Lib.bitLenAux f x = Nat.log2 x + 1
  | 0, x, h, h0 => by simp at h; omega
  | f + 1, x, h, h0 => by
    show (if x = 0 then 0 else 1 + Lib.bitLenAux f (x / 2)) = _
    rw [if_neg (by omega)]
    by_cases h1 : x = 1
    · subst h1
      have : Lib.bitLenAux f (1 / 2) = 0 := by cases f <;> rfl
      rw [this]; rfl
    · rw [bitLen_pos f (x / 2) (by rw [Nat.pow_succ] at h; omega) (by omega)]
      rw [Nat.log2_def x, if_pos (by omega)]
      omega
/-- The split of an integer. -/
def splI (n : Int) : Int := (spl n.toNat : Int)
theorem splI_small {n : Int} (h : n < 2) : splI n = 0 := by unfold splI; rw [spl_small (by omega)]; rfl
theorem splI_nat (n : Nat) : splI n = spl n := by unfold splI; rw [Int.toNat_natCast]

set_option maxHeartbeats 400000 in
theorem split_any (n : Int) (hn : I64 n) (w : World) : Calls Try.prog 63 #[.int .i64 n] w fun e w' => e = .returned (.int .i64 (splI n)) ∧ w = w' := by
  obtain ⟨n0, n1⟩ := hn
  by_cases h : n < 2
  · have He := Lib.hid (splI_small h)
    go_enter Try.func63, Try.ntmps63
    go_wp2_with fail
    go_ret
    exact ⟨ret_int He.out.symm, rfl⟩
  · obtain ⟨m, rfl⟩ := Int.eq_ofNat_of_zero_le (show 0 ≤ n by omega)
    obtain ⟨L, hL⟩ : ∃ L, L = Nat.log2 (m - 1) := ⟨_, rfl⟩
    have hL62 : L ≤ 62 := by
      have : Nat.log2 (m - 1) < 63 := (Nat.log2_lt (by omega)).2 (by omega)
      omega
    have He : Hid (splI (m : Int) = ((2 ^ L : Nat) : Int)) := by unfold Hid; rw [splI_nat, spl_eq (by omega), hL]
    have HC := Lib.hid (show Calls Try.prog 82 #[.int .u64 ((m : Int) - 1)] w fun e w' => e = .returned (.int .i64 ((L : Int) + 1)) ∧ w' = w by
      have h3 := Try.bits_Len ((m : Int) - 1) w (by omega) (by omega)
      rw [show ((m : Int) - 1).toNat = m - 1 by omega, show Lib.bitLen (m - 1) = Nat.log2 (m - 1) + 1 from bitLen_pos 64 (m - 1) (by omega) (by omega), ← hL] at h3
      exact h3)
    clear hL
    go_enter Try.func63, Try.ntmps63
    go_wp2_with fail
    refine HC.out.mono ?_
    rintro e w1 ⟨rfl, rfl⟩
    go_wp2_with fail
    go_ret
    refine ⟨ret_int ?_, rfl⟩
    rw [He.out]
    have hp : (2 : Nat) ^ L ≤ 2 ^ 62 := Nat.pow_le_pow_right (by omega) hL62
    have hq : (2 : Int) ^ L = ((2 ^ L : Nat) : Int) := (Int.natCast_pow 2 L).symm
    rw [hq]
    generalize (2 : Nat) ^ L = P at hp ⊢
    have hp' : P ≤ 4611686018427387904 := hp
    exact IntWalk.wrap64_in _ (by omega)
theorem one4 (a b c d : Int) : ∀ u ∈ [Value.int .u32 a, .int .u32 b, .int .u32 c, .int .u32 d], u.oneCell' = true := by simp [Value.oneCell']
theorem news4 {w : World} {g : Nat} {T : TypeId} {a b c d : Int} (h : Bk w g T #[.int .u32 a, .int .u32 b, .int .u32 c, .int .u32 d]) : ∀ j u, [Value.int .u32 a, .int .u32 b, .int .u32 c, .int .u32 d][j]? = some u → w.cell? ((⟨g, 0, none⟩ : Addr).add j) = some u := World.news_of_block h
set_option maxHeartbeats 400000 in
theorem join_any (a b : St) (w : World) :
    Calls Try.prog 64 #[dv a, dv b] w fun e w' => e = .returned (dv (jn a b)) ∧ Below w.heap.size w w' := by
  go_enter Try.func64, Try.ntmps64
  go_wp2_with fail
  refine (words_any 1 _ _ [a.1, a.2.1, a.2.2.1, a.2.2.2, b.1, b.2.1, b.2.2.1, b.2.2.2] _ (by simp) ?hr).mono ?_
  case hr => refine Rd.lit' rfl rfl ?_ ?_ <;> simp
  rintro e w1 ⟨rfl, hb1⟩
  have hZ : Bk w1 (w.heap.size + 2) 50 #[.int .u32 0, .int .u32 0, .int .u32 0, .int .u32 0] := Mw.Bk.old (by (repeat (first | ((with_reducible refine Mw.Bk.new' ?_); (first | rfl | (simp; done) | (simp; omega))) | with_reducible refine Mw.Bk.alloc ?_ _ | with_reducible refine Mw.Bk.drewN ?_ _ | with_reducible refine Mw.Bk.drew ?_ | with_reducible assumption))) hb1
  have hb2 : Below w.heap.size w w1 := bl_trans (by (repeat (first | with_reducible exact Below.refl _ _ | with_reducible refine bl_drewN ?_ _ | with_reducible refine Below.drew ?_ | with_reducible refine bl_alloc ?_ _ | with_reducible refine Below.alloc ?_ (by first | omega | (simp; done) | (simp; omega)) _ | with_reducible refine Below.setCell ?_ (by first | omega | (simp; done) | (simp; omega)) _ | with_reducible assumption))) hb1
  clear hb1
  obtain ⟨⟨c0, c1, c2, c3⟩, f0, f1, f2, f3⟩ := bk4 hZ
  go_wp2_with fail
  refine bodyPost_ret (v := dv (jn a b)) (by simp [results, Try.results64, go_sem, c0, c1, c2, c3, jn]) rfl ⟨rfl, ?_⟩
  (repeat (first | with_reducible exact Below.refl _ _ | with_reducible refine bl_drewN ?_ _ | with_reducible refine Below.drew ?_ | with_reducible refine bl_alloc ?_ _ | with_reducible refine Below.alloc ?_ (by first | omega | (simp; done) | (simp; omega)) _ | with_reducible refine Below.setCell ?_ (by first | omega | (simp; done) | (simp; omega)) _ | with_reducible assumption))
end Go.Proofs.Ytdikoffppjoomaa.Tr
