/- Walks: Leaf, Split, Join of the program and of the reference. -/
import Derived.Test.YtdikoffppjoomaaGreatRA
import Derived.Test.YtdikoffppjoomaaGreatGR
import Derived.Test.YtdikoffppjoomaaGreatMem
import Derived.Test.YtdikoffppjoomaaGreatShelf
import Derived.WalkKit
import Derived.WalkSpells
import Derived.WalkLawsBesides
import Derived.Deep.QuietTactic
import Derived.BigQuiet
import Derived.Deep.Draws
import Derived.Deep.AppendLies
import Derived.Laws.OwnMore
import Derived.Laws.BytesArg
import Derived.Lib.Hide
import Derived.Deep.LoopGhost
import Derived.OwnWalk
import Derived.Deep.RegionLaw
import Derived.RegionTactic
namespace Go.Proofs.YtdikoffppjoomaaGreat.Tr
open Go.RowKit Go.Proofs.YtdikoffppjoomaaGreat.Dg
open Go.Proofs.YtdikoffppjoomaaGreat.Mw (I64 ret_int ret_bool Bk bl_trans own_ints)
set_option linter.unusedVariables false
set_option linter.unusedSimpArgs false

abbrev c4 (s : St) : Array Value := #[.int .u32 s.1, .int .u32 s.2.1, .int .u32 s.2.2.1, .int .u32 s.2.2.2]
theorem bk4 {w : World} {g : Nat} {T : TypeId} {a b c d : Value} (h : Bk w g T #[a, b, c, d]) : (w.cell? ⟨g, 0, none⟩ = some a ∧ w.cell? ⟨g, 1, none⟩ = some b ∧ w.cell? ⟨g, 2, none⟩ = some c ∧ w.cell? ⟨g, 3, none⟩ = some d) ∧ w.frozen? ⟨g, 0, none⟩ = false ∧ w.frozen? ⟨g, 1, none⟩ = false ∧ w.frozen? ⟨g, 2, none⟩ = false ∧ w.frozen? ⟨g, 3, none⟩ = false := ⟨⟨h.cell 0, h.cell 1, h.cell 2, h.cell 3⟩, h.frozen 0, h.frozen 1, h.frozen 2, h.frozen 3⟩
theorem rd_bk {w : World} {g : Nat} {T : TypeId} {l : List Int} {cs : Array Value} (h : Bk w g T cs) (hcs : (l.map (Value.int .u32)).toArray = cs) : Rd w w.heap.size .u32 (some ⟨g, 0, none⟩) l := Mw.RdI.bk h hcs

set_option maxHeartbeats 400000 in
theorem leaf_any (d : St) (w : World) : Calls Tryz.prog 89 #[dv d] w fun e w' => e = .returned (dv (leaf d)) ∧ Below w.heap.size w w' := by
  go_enter Tryz.func89, Tryz.ntmps89
  go_wp2_with fail
  refine (words_any 0 _ _ [d.1, d.2.1, d.2.2.1, d.2.2.2] _ (by simp) (rd_bk (T := 35) (cs := c4 d) (by (repeat (first | ((with_reducible refine Mw.Bk.new' ?_); (first | rfl | (simp; done) | (simp; omega))) | with_reducible refine Mw.Bk.alloc ?_ _ | with_reducible refine Mw.Bk.drewN ?_ _ | with_reducible refine Mw.Bk.drew ?_ | with_reducible assumption))) rfl)).mono ?_
  rintro e w1 ⟨rfl, hb1⟩
  have hZ : Bk w1 (w.heap.size + 1) 35 #[.int .u32 0, .int .u32 0, .int .u32 0, .int .u32 0] := Mw.Bk.old (by (repeat (first | ((with_reducible refine Mw.Bk.new' ?_); (first | rfl | (simp; done) | (simp; omega))) | with_reducible refine Mw.Bk.alloc ?_ _ | with_reducible refine Mw.Bk.drewN ?_ _ | with_reducible refine Mw.Bk.drew ?_ | with_reducible assumption))) hb1
  have hc1 : Below w.heap.size w w1 := bl_trans (by (repeat (first | with_reducible exact Below.refl _ _ | with_reducible refine bl_drewN ?_ _ | with_reducible refine Below.drew ?_ | with_reducible refine bl_alloc ?_ _ | with_reducible refine Below.alloc ?_ (by first | omega | (simp; done) | (simp; omega)) _ | with_reducible refine Below.setCell ?_ (by first | omega | (simp; done) | (simp; omega)) _ | with_reducible assumption))) hb1
  clear hb1
  obtain ⟨⟨k0, k1, k2, k3⟩, f0, f1, f2, f3⟩ := bk4 hZ
  go_wp2_with fail
  refine bodyPost_ret (v := dv (leaf d)) (by simp [results, Tryz.results89, go_sem, k0, k1, k2, k3, leaf]) rfl ⟨rfl, ?_⟩
  (repeat (first | with_reducible exact Below.refl _ _ | with_reducible refine bl_drewN ?_ _ | with_reducible refine Below.drew ?_ | with_reducible refine bl_alloc ?_ _ | with_reducible refine Below.alloc ?_ (by first | omega | (simp; done) | (simp; omega)) _ | with_reducible refine Below.setCell ?_ (by first | omega | (simp; done) | (simp; omega)) _ | with_reducible assumption))
set_option maxHeartbeats 400000 in
theorem rleaf_any (d : St) (w : World) : Calls Tryz.prog 65 #[dv d] w fun e w' => e = .returned (dv (leaf d)) ∧ Below w.heap.size w w' := by
  go_enter Tryz.func65, Tryz.ntmps65
  go_wp2_with fail
  refine (rwords_any 0 _ _ [d.1, d.2.1, d.2.2.1, d.2.2.2] _ (by simp) (rd_bk (T := 35) (cs := c4 d) (by (repeat (first | ((with_reducible refine Mw.Bk.new' ?_); (first | rfl | (simp; done) | (simp; omega))) | with_reducible refine Mw.Bk.alloc ?_ _ | with_reducible refine Mw.Bk.drewN ?_ _ | with_reducible refine Mw.Bk.drew ?_ | with_reducible assumption))) rfl)).mono ?_
  rintro e w1 ⟨rfl, hb1⟩
  have hZ : Bk w1 (w.heap.size + 1) 35 #[.int .u32 0, .int .u32 0, .int .u32 0, .int .u32 0] := Mw.Bk.old (by (repeat (first | ((with_reducible refine Mw.Bk.new' ?_); (first | rfl | (simp; done) | (simp; omega))) | with_reducible refine Mw.Bk.alloc ?_ _ | with_reducible refine Mw.Bk.drewN ?_ _ | with_reducible refine Mw.Bk.drew ?_ | with_reducible assumption))) hb1
  have hc1 : Below w.heap.size w w1 := bl_trans (by (repeat (first | with_reducible exact Below.refl _ _ | with_reducible refine bl_drewN ?_ _ | with_reducible refine Below.drew ?_ | with_reducible refine bl_alloc ?_ _ | with_reducible refine Below.alloc ?_ (by first | omega | (simp; done) | (simp; omega)) _ | with_reducible refine Below.setCell ?_ (by first | omega | (simp; done) | (simp; omega)) _ | with_reducible assumption))) hb1
  clear hb1
  obtain ⟨⟨k0, k1, k2, k3⟩, f0, f1, f2, f3⟩ := bk4 hZ
  go_wp2_with fail
  refine bodyPost_ret (v := dv (leaf d)) (by simp [results, Tryz.results65, go_sem, k0, k1, k2, k3, leaf]) rfl ⟨rfl, ?_⟩
  (repeat (first | with_reducible exact Below.refl _ _ | with_reducible refine bl_drewN ?_ _ | with_reducible refine Below.drew ?_ | with_reducible refine bl_alloc ?_ _ | with_reducible refine Below.alloc ?_ (by first | omega | (simp; done) | (simp; omega)) _ | with_reducible refine Below.setCell ?_ (by first | omega | (simp; done) | (simp; omega)) _ | with_reducible assumption))

theorem bitLen_pos : ∀ (f x : Nat), x < 2 ^ f → 0 < x → Lib.bitLenAux f x = Nat.log2 x + 1
  | 0, x, h, h0 => by simp at h; omega
  | f + 1, x, h, h0 => by
    show (if x = 0 then 0 else 1 + Lib.bitLenAux f (x / 2)) = _
    rw [if_neg (by omega)]
    by_cases h1 : x = 1
    · subst h1
      have : Lib.bitLenAux f (1 / 2) = 0 := by cases f <;> rfl
      rw [this]; rfl
    · rw [bitLen_pos f (x / 2) (by rw [Nat.pow_succ] at h; omega) (by omega)]
      rw [Nat.log2_def x, if_pos (by omega)]
      omega
/-- The split of an integer. -/
def splI (n : Int) : Int := (spl n.toNat : Int)
theorem splI_small {n : Int} (h : n < 2) : splI n = 0 := by unfold splI; rw [spl_small (by omega)]; rfl
theorem splI_nat (n : Nat) : splI n = spl n := by unfold splI; rw [Int.toNat_natCast]

set_option maxHeartbeats 400000 in
theorem split_any (n : Int) (hn : I64 n) (w : World) : Calls Tryz.prog 90 #[.int .i64 n] w fun e w' => e = .returned (.int .i64 (splI n)) ∧ w = w' := by
  obtain ⟨n0, n1⟩ := hn
  by_cases h : n < 2
  · have He := Lib.hid (splI_small h)
    go_enter Tryz.func90, Tryz.ntmps90
    go_wp2_with fail
    go_ret
    exact ⟨ret_int He.out.symm, rfl⟩
  · obtain ⟨m, rfl⟩ := Int.eq_ofNat_of_zero_le (show 0 ≤ n by omega)
    obtain ⟨L, hL⟩ : ∃ L, L = Nat.log2 (m - 1) := ⟨_, rfl⟩
    have hL62 : L ≤ 62 := by
      have : Nat.log2 (m - 1) < 63 := (Nat.log2_lt (by omega)).2 (by omega)
      omega
    have He : Hid (splI (m : Int) = ((2 ^ L : Nat) : Int)) := by unfold Hid; rw [splI_nat, spl_eq (by omega), hL]
    have HC := Lib.hid (show Calls Tryz.prog 116 #[.int .u64 ((m : Int) - 1)] w fun e w' => e = .returned (.int .i64 ((L : Int) + 1)) ∧ w' = w by
      have h3 := Tryz.bits_Len ((m : Int) - 1) w (by omega) (by omega)
      rw [show ((m : Int) - 1).toNat = m - 1 by omega, show Lib.bitLen (m - 1) = Nat.log2 (m - 1) + 1 from bitLen_pos 64 (m - 1) (by omega) (by omega), ← hL] at h3
      exact h3)
    clear hL
    go_enter Tryz.func90, Tryz.ntmps90
    go_wp2_with fail
    refine HC.out.mono ?_
    rintro e w1 ⟨rfl, rfl⟩
    go_wp2_with fail
    go_ret
    refine ⟨ret_int ?_, rfl⟩
    rw [He.out]
    have hp : (2 : Nat) ^ L ≤ 2 ^ 62 := Nat.pow_le_pow_right (by omega) hL62
    have hq : (2 : Int) ^ L = ((2 ^ L : Nat) : Int) := (Int.natCast_pow 2 L).symm
    rw [hq]
    generalize (2 : Nat) ^ L = P at hp ⊢
    have hp' : P ≤ 4611686018427387904 := hp
    exact IntWalk.wrap64_in _ (by omega)
set_option maxHeartbeats 400000 in
theorem rsplit_any (n : Int) (hn : I64 n) (w : World) : Calls Tryz.prog 97 #[.int .i64 n] w fun e w' => e = .returned (.int .i64 (splI n)) ∧ w = w' := by
  obtain ⟨n0, n1⟩ := hn
  by_cases h : n < 2
  · have He := Lib.hid (splI_small h)
    go_enter Tryz.func97, Tryz.ntmps97
    go_wp2_with fail
    go_ret
    exact ⟨ret_int He.out.symm, rfl⟩
  · obtain ⟨m, rfl⟩ := Int.eq_ofNat_of_zero_le (show 0 ≤ n by omega)
    go_enter Tryz.func97, Tryz.ntmps97
    go_wp2_with fail
    go_loop [3] (fun x => ∃ (j k : Nat), k = 2 ^ j ∧ x = .int .i64 k ∧ k < m ∧ 1 ≤ k) (fun x => m - (intOf x).toNat)
    case atStart => exact ⟨0, 1, rfl, rfl, by omega, by omega⟩
    case round =>
      obtain ⟨j, k, hk, rfl, hkm, hk1⟩ := hrel
      have Hk := Lib.hid hk
      clear hk
      by_cases hlt : 2 * k < m
      · go_wp2_with fail
        go_round
        case rel => exact ⟨j + 1, k * 2, by rw [Hk.out, Nat.pow_succ], by go_num, by omega, by omega⟩
        case measure => simp [intOf]; omega
      · have He : Hid (splI (m : Int) = (k : Int)) := by unfold Hid; rw [splI_nat, spl_unique (j := j) (by omega) (by rw [← Hk.out]; exact hkm) (by rw [← Hk.out]; omega), Hk.out]
        go_wp2_with fail
        go_ret
        exact ⟨ret_int He.out.symm, rfl⟩

theorem one4 (a b c d : Int) : ∀ u ∈ [Value.int .u32 a, .int .u32 b, .int .u32 c, .int .u32 d], u.oneCell' = true := by simp [Value.oneCell']
theorem news4 {w : World} {g : Nat} {T : TypeId} {a b c d : Int} (h : Bk w g T #[.int .u32 a, .int .u32 b, .int .u32 c, .int .u32 d]) : ∀ j u, [Value.int .u32 a, .int .u32 b, .int .u32 c, .int .u32 d][j]? = some u → w.cell? ((⟨g, 0, none⟩ : Addr).add j) = some u := World.news_of_block h
set_option maxHeartbeats 400000 in
theorem join_any (a b : St) (w : World) :
    Calls Tryz.prog 91 #[dv a, dv b] w fun e w' => e = .returned (dv (jn a b)) ∧ Below w.heap.size w w' := by
  go_enter Tryz.func91, Tryz.ntmps91
  go_wp2_with fail
  refine (words_any 1 _ _ [a.1, a.2.1, a.2.2.1, a.2.2.2, b.1, b.2.1, b.2.2.1, b.2.2.2] _ (by simp) ?hr).mono ?_
  case hr => refine Rd.lit' rfl rfl ?_ ?_ <;> simp
  rintro e w1 ⟨rfl, hb1⟩
  have hZ : Bk w1 (w.heap.size + 2) 35 #[.int .u32 0, .int .u32 0, .int .u32 0, .int .u32 0] := Mw.Bk.old (by (repeat (first | ((with_reducible refine Mw.Bk.new' ?_); (first | rfl | (simp; done) | (simp; omega))) | with_reducible refine Mw.Bk.alloc ?_ _ | with_reducible refine Mw.Bk.drewN ?_ _ | with_reducible refine Mw.Bk.drew ?_ | with_reducible assumption))) hb1
  have hb2 : Below w.heap.size w w1 := bl_trans (by (repeat (first | with_reducible exact Below.refl _ _ | with_reducible refine bl_drewN ?_ _ | with_reducible refine Below.drew ?_ | with_reducible refine bl_alloc ?_ _ | with_reducible refine Below.alloc ?_ (by first | omega | (simp; done) | (simp; omega)) _ | with_reducible refine Below.setCell ?_ (by first | omega | (simp; done) | (simp; omega)) _ | with_reducible assumption))) hb1
  clear hb1
  obtain ⟨⟨c0, c1, c2, c3⟩, f0, f1, f2, f3⟩ := bk4 hZ
  go_wp2_with fail
  refine bodyPost_ret (v := dv (jn a b)) (by simp [results, Tryz.results91, go_sem, c0, c1, c2, c3, jn]) rfl ⟨rfl, ?_⟩
  (repeat (first | with_reducible exact Below.refl _ _ | with_reducible refine bl_drewN ?_ _ | with_reducible refine Below.drew ?_ | with_reducible refine bl_alloc ?_ _ | with_reducible refine Below.alloc ?_ (by first | omega | (simp; done) | (simp; omega)) _ | with_reducible refine Below.setCell ?_ (by first | omega | (simp; done) | (simp; omega)) _ | with_reducible assumption))
set_option maxRecDepth 20000 in
set_option maxHeartbeats 1000000 in
theorem rjoin_any (a b : St) (w : World) :
    Calls Tryz.prog 105 #[dv a, dv b] w fun e w' => e = .returned (dv (jn a b)) ∧ Below w.heap.size w w' := by
  obtain ⟨i0, hi, hz0, hz1, hz2⟩ := info_parts info32
  go_enter Tryz.func105, Tryz.ntmps105
  go_wp2_with fail
  go_region_law (first
    | (refine step_append_lies _ (by rfl) (.const (.slice none 0 0)) (.tmp 5) 128 (by rfl) (w.heap.size + 3) 33 i0 (.int .u32 0) 1 4 Tryz.underlying128 hi hz0 hz1 hz2 rfl (by decide) (.slice none 0 0) 0 [] (by rfl) (World.ownsRow_nil _ _ _ _) ⟨w.heap.size, 0, none⟩ 4 4 [.int .u32 a.1, .int .u32 a.2.1, .int .u32 a.2.2.1, .int .u32 a.2.2.2] (by rfl) rfl (by refine news4 (T := 35) ?_; (repeat (first | ((with_reducible refine Mw.Bk.new' ?_); (first | rfl | (simp; done) | (simp; omega))) | with_reducible refine Mw.Bk.alloc ?_ _ | with_reducible refine Mw.Bk.drewN ?_ _ | with_reducible refine Mw.Bk.drew ?_ | with_reducible assumption))) (one4 _ _ _ _) (by decide) (by simp only [maxLen]; omega) (by omega) (by simp) _ rfl ?_
       intro g1 cap1 w1 hown1 hgrow1 hat1 hlt1
       have hA1 := Mw.Bk.grown (t := 35) (g := w.heap.size + 1) (cs := #[.int .u32 b.1, .int .u32 b.2.1, .int .u32 b.2.2.1, .int .u32 b.2.2.2]) (by (repeat (first | ((with_reducible refine Mw.Bk.new' ?_); (first | rfl | (simp; done) | (simp; omega))) | with_reducible refine Mw.Bk.alloc ?_ _ | with_reducible refine Mw.Bk.drewN ?_ _ | with_reducible refine Mw.Bk.drew ?_ | with_reducible assumption))) hgrow1 (by simp [Value.ownBlock])
       have hC1 := Mw.Bk.grown (t := 35) (g := w.heap.size + 2) (cs := #[.int .u32 0, .int .u32 0, .int .u32 0, .int .u32 0]) (by (repeat (first | ((with_reducible refine Mw.Bk.new' ?_); (first | rfl | (simp; done) | (simp; omega))) | with_reducible refine Mw.Bk.alloc ?_ _ | with_reducible refine Mw.Bk.drewN ?_ _ | with_reducible refine Mw.Bk.drew ?_ | with_reducible assumption))) hgrow1 (by simp [Value.ownBlock])
       have hb1 : Below w.heap.size w w1 := Below.grown (by (repeat (first | with_reducible exact Below.refl _ _ | with_reducible refine bl_drewN ?_ _ | with_reducible refine Below.drew ?_ | with_reducible refine bl_alloc ?_ _ | with_reducible refine Below.alloc ?_ (by first | omega | (simp; done) | (simp; omega)) _ | with_reducible refine Below.setCell ?_ (by first | omega | (simp; done) | (simp; omega)) _ | with_reducible assumption))) hgrow1 (by simp; omega) (by simp [Value.ownBlock]))
    | (refine step_append_lies _ (by rfl) (.tmp 6) (.tmp 7) 128 (by rfl) (w.heap.size + 3) 33 i0 (.int .u32 0) 1 4 Tryz.underlying128 hi hz0 hz1 hz2 rfl (by decide) _ _ _ (by rfl) hown1 ⟨w.heap.size + 1, 0, none⟩ 4 4 [.int .u32 b.1, .int .u32 b.2.1, .int .u32 b.2.2.1, .int .u32 b.2.2.2] (by rfl) rfl (news4 hA1) (one4 _ _ _ _) (by decide) (by simp only [maxLen]; omega) (by omega) (by have := hC1.lt; omega) _ rfl ?_
       intro g2 cap2 w2 hown2 hgrow2 hat2 hlt2
       have hC2 := hC1.grown hgrow2 (fun e => by have := (hown1.lt _ e.symm).1; omega)
       have hb2 : Below w.heap.size w w2 := hb1.grown hgrow2 hb1.size (fun j hj => by have := (hown1.lt j hj).1; omega)
       obtain ⟨A3, c3, e3, hr3, -⟩ := own_ints (l := [a.1, a.2.1, a.2.2.1, a.2.2.2, b.1, b.2.1, b.2.2.1, b.2.2.2]) hown2)
    | (go_simp
       go_at_call 101
       refine (rwords_any 1 A3 c3 [a.1, a.2.1, a.2.2.1, a.2.2.2, b.1, b.2.1, b.2.2.1, b.2.2.2] _ (by simp) hr3).mono ?_
       rintro e w3 ⟨rfl, hb3⟩
       have hC3 := hC2.old hb3
       have hc3 : Below w.heap.size w w3 := hb2.trans (hb3.mono hb2.size)
       have p0 : w3.cell? ⟨w.heap.size + 1 + 1, 0, none⟩ = some (.int .u32 0) := hC3.cell 0
       have p1 : w3.cell? ⟨w.heap.size + 1 + 1, 1, none⟩ = some (.int .u32 0) := hC3.cell 1
       have p2 : w3.cell? ⟨w.heap.size + 1 + 1, 2, none⟩ = some (.int .u32 0) := hC3.cell 2
       have p3 : w3.cell? ⟨w.heap.size + 1 + 1, 3, none⟩ = some (.int .u32 0) := hC3.cell 3
       have f0 : w3.frozen? ⟨w.heap.size + 1 + 1, 0, none⟩ = false := hC3.frozen 0
       have f1 : w3.frozen? ⟨w.heap.size + 1 + 1, 1, none⟩ = false := hC3.frozen 1
       have f2 : w3.frozen? ⟨w.heap.size + 1 + 1, 2, none⟩ = false := hC3.frozen 2
       have f3 : w3.frozen? ⟨w.heap.size + 1 + 1, 3, none⟩ = false := hC3.frozen 3))
  go_wp2_with fail
  refine bodyPost_ret (v := dv (jn a b)) (by simp [results, Tryz.results105, go_sem, p0, p1, p2, p3, jn]) rfl ⟨rfl, ?_⟩
  (repeat (first | with_reducible exact Below.refl _ _ | with_reducible refine bl_drewN ?_ _ | with_reducible refine Below.drew ?_ | with_reducible refine bl_alloc ?_ _ | with_reducible refine Below.alloc ?_ (by first | omega | (simp; done) | (simp; omega)) _ | with_reducible refine Below.setCell ?_ (by first | omega | (simp; done) | (simp; omega)) _ | with_reducible assumption))
end Go.Proofs.YtdikoffppjoomaaGreat.Tr
