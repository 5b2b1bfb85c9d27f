/- Walks: the statement MonitorTolerance. -/
import Derived.Test.YtpgkiiaoddhdcaaMN
import Derived.WalkKit
import Derived.WalkSpells
import Derived.WalkLawsBesides
import Derived.Deep.QuietTactic
import Derived.BigQuiet
import Derived.Deep.Draws
import Derived.Deep.AppendLies
import Derived.Laws.OwnMore
import Derived.Laws.BytesArg
import Derived.Lib.Hide
import Derived.Deep.LoopGhost
import Derived.Deep.RegionHeld3
import Derived.RegionTactic
import Derived.BigRegion
import Derived.Deep.RegionLaw
namespace Go.Proofs.Ytpgkiiaoddhdcaa.Mo
open Go.RowKit Go.Proofs.Ytpgkiiaoddhdcaa.Mw Go.Proofs.Ytpgkiiaoddhdcaa.Dc
set_option linter.unusedVariables false

set_option maxHeartbeats 4000000 in
set_option maxRecDepth 100000 in
theorem tolerance_any (t : List Int) (A : Option Addr) (c : Nat) (a : List Int) (B : Option Addr) (d : Nat) (b : List Int) (C : Option Addr) (f : Nat) (kk : Int) (w : World) (ht : t.length ≤ maxLen) (hti : ∀ n ∈ t, I64 n) (hrt : RdI w .i64 A t) (hla : a.length ≤ maxLen) (hai : ∀ n ∈ a, 0 ≤ n ∧ n ≤ 255) (hra : RdI w .u8 B a) (hlb : b.length ≤ maxLen) (hbi : ∀ n ∈ b, 0 ≤ n ∧ n ≤ 255) (hrb : RdI w .u8 C b) (hkk : 0 ≤ kk ∧ kk ≤ 255) :
    Calls Try.prog 6 #[.slice A t.length c, .slice B a.length d, .slice C b.length f, .int .u8 kk] w fun e w' => e = .returned (.bool true) ∧ Below w.heap.size w w' := by
  unfold maxLen at ht hla hlb
  obtain ⟨hk0, hk1⟩ := hkk
  by_cases h6 : t.length ≤ 600
  · have h6' : decide (t.length ≤ 600) = true := decide_eq_true h6
    by_cases h24 : a.length ≤ 24
    · have h24' : decide (24 < (a.length : Int)) = false := decide_eq_false (by omega)
      by_cases hl : a.length = b.length
      · have hn : ((a.length : Int) != b.length) = false := by simp [hl]
        have hl1 : a.length ≤ b.length := by omega
        have hl2 : b.length ≤ a.length := by omega
        have Hl := Lib.hid hl
        have Hti := Lib.hid hti
        have Hai := Lib.hid hai
        have Hbi := Lib.hid hbi
        clear hl hti hai hbi
        obtain ⟨i0, hi, hz0, hz1, hz2⟩ := info_parts infoInt
        go_enter Try.func6, Try.ntmps6
        go_wp2_with (go_at_call 8; refine (light_any t A c _).mono ?_; rintro e w' ⟨rfl, rfl⟩)
        refine (roll_any t A c _ hrt (by omega) Hti.out).mono ?_
        rintro e w1 ⟨rfl, hd1, hb1⟩
        go_wp2_with fail
        refine (monitor_any _ _ hd1).mono ?_
        rintro e w2 ⟨r, hck, hp1, hp2, hp3, rfl, hd2, hg2⟩
        have hc2 : Below w.heap.size w w2 := bl_gb hb1 hg2 (Nat.le_refl _)
        have hcb := chk_bd hck
        have Hck := Lib.hid hck
        have hra2 := hra.old hc2
        have hrb2 := hrb.old hc2
        clear hb1 hg2 hd1 hd2 hck hrt hra hrb Hti
        go_wp2_with fail
        go_region
        go_wp2_with fail
        obtain ⟨q, hq⟩ : ∃ q : Rl, q = ⟨r.p + kk % 5, r.t + kk % 7, r.w, r.f⟩ := ⟨_, rfl⟩
        have hW0 : ∃ W0, W0 = ((w2.alloc (.cells (rc r) 24)).alloc (.cells (rc q) 24)).drew := ⟨_, rfl⟩
        obtain ⟨w3, hw3⟩ := hW0
        have hB9 : Bk w3 w2.heap.size 24 (rc r) := by rw [hw3]; (repeat (first | ((with_reducible refine Mw.Bk.new' ?_); (first | rfl | (simp; done) | (simp; omega))) | with_reducible refine Mw.Bk.alloc ?_ _ | with_reducible refine Mw.Bk.drewN ?_ _ | with_reducible refine Mw.Bk.drew ?_ | with_reducible assumption))
        have hB10 : Bk w3 (w2.heap.size + 1) 24 (rc q) := by rw [hw3]; (repeat (first | ((with_reducible refine Mw.Bk.new' ?_); (first | rfl | (simp; done) | (simp; omega))) | with_reducible refine Mw.Bk.alloc ?_ _ | with_reducible refine Mw.Bk.drewN ?_ _ | with_reducible refine Mw.Bk.drew ?_ | with_reducible assumption))
        have hra3 : RdI w3 .u8 B a := by rw [hw3]; exact (hra2.alloc _).alloc _
        have hrb3 : RdI w3 .u8 C b := by rw [hw3]; exact (hrb2.alloc _).alloc _
        have hc3 : Below w.heap.size w w3 := by rw [hw3]; (repeat (first | with_reducible exact Below.refl _ _ | with_reducible refine bl_drewN ?_ _ | with_reducible refine Below.drew ?_ | with_reducible refine bl_alloc ?_ _ | with_reducible refine Below.alloc ?_ (by first | omega | (simp; done) | (simp; omega)) _ | with_reducible refine Below.setCell ?_ (by first | omega | (simp; done) | (simp; omega)) _ | with_reducible assumption))
        have hqc : chk q = true := by rw [hq]; exact decide_eq_true (by simp only; omega)
        have hqp : r.p ≤ q.p ∧ r.t ≤ q.t := by rw [hq]; simp only; omega
        have hw3' : ((w2.alloc (.cells (rc r) 24)).alloc (.cells #[.int .i64 (r.p + kk % 5), .int .i64 (r.t + kk % 7), .int .i64 r.w, .int .i64 r.f] 24)).drew = w3 := by rw [hw3, hq]
        rw [hw3']
        have Hq := Lib.hid hqc
        have Hqp := Lib.hid hqp
        clear hq hw3 hw3' hra2 hrb2 hc2 hqc hqp
        have hz9 := hB9.lt
        have hz10 := hB10.lt
        go_loopw [11, 12, 56] (fun vx vy i wr => ∃ k : Nat, k ≤ a.length ∧ i = .int .i64 k ∧ Two w3 wr w3.heap.size 3 vx vy k k ((xl a k).map (Value.int .i64)) ((xl b k).map (Value.int .i64))) (fun _ _ i _ => a.length - (intOf i).toNat)
        case atStart => exact ⟨0, by omega, rfl, Two.start _ _⟩
        case round =>
          obtain ⟨k, hk, rfl, hT⟩ := hrel
          by_cases hlt : k < a.length
          · obtain ⟨ba, oa, rfl, hbA, hcA⟩ := hra3 k hlt
            obtain ⟨bb, ob, rfl, hbB, hcB⟩ := hrb3 k (by omega)
            have cA := hT.cell (p := ⟨ba, oa + k, none⟩) hbA hcA
            have cB := hT.cell (p := ⟨bb, ob + k, none⟩) hbB hcB
            have hsz := hT.2.2.2.1
            have hT0 := hT
            obtain ⟨a0, a1⟩ := Hai.out _ (gi_mem a k hlt)
            obtain ⟨b0, b1⟩ := Hbi.out _ (gi_mem b k (by omega))
            have hki : (0 : Int) ≤ k := by omega
            have hkj : (k : Int) < a.length := by omega
            have hkl : (k : Int) < b.length := by omega
            have Ex : Hid ((xl a (k + 1)).map (Value.int .i64) = (xl a k).map (Value.int .i64) ++ [.int .i64 (gi a k % 9)]) := by unfold Hid; rw [show xl a (k + 1) = xl a k ++ [gi a k % 9] from rfl, List.map_append]; rfl
            have Ey : Hid ((xl b (k + 1)).map (Value.int .i64) = (xl b k).map (Value.int .i64) ++ [.int .i64 (gi b k % 9)]) := by unfold Hid; rw [show xl b (k + 1) = xl b k ++ [gi b k % 9] from rfl, List.map_append]; rfl
            have wa : IntKind.i64.wrap ((gi a k).tmod 9) = gi a k % 9 := by rw [Int.tmod_eq_emod_of_nonneg a0]; exact IntWalk.i64_in _ (by omega)
            have wb : IntKind.i64.wrap ((gi b k).tmod 9) = gi b k % 9 := by rw [Int.tmod_eq_emod_of_nonneg b0]; exact IntWalk.i64_in _ (by omega)
            go_wp2_with fail
            go_region_held3 (fun w' => w'.cell? ⟨ba, oa + k, none⟩ = some (.int .u8 (gi a k)) ∧ w'.cell? ⟨bb, ob + k, none⟩ = some (.int .u8 (gi b k))) ((refine ⟨?_, ?_⟩ <;> (repeat (first | with_reducible assumption | with_reducible refine Mw.cell_alloc ?_ _ | with_reducible refine Mw.cell_drew ?_ | with_reducible refine Mw.cell_far ?_ (by first | assumption | omega | (simp; omega)) _)))) ((first | (refine step_append_lies _ (by rfl) (.tmp 59) (.tmp 66) 22 (by rfl) w3.heap.size 3 i0 (.int .i64 0) 1 8 Try.underlying22 hi hz0 hz1 hz2 rfl (by decide) _ k ((xl a k).map (Value.int .i64)) (by rfl) (by first | exact hT.1 | exact hT.drew.1 | exact (hT.alloc _).1 | exact (hT.alloc _).drew.1 | exact ((hT.alloc _).alloc _).1 | exact ((hT.alloc _).alloc _).drew.1) _ 1 1 [.int .i64 (gi a k % 9)] (by rfl) rfl (by refine one_bk (t := 3) ?_; (((repeat (first | ((with_reducible refine Mw.Bk.new' ?_); (first | rfl | (simp; done) | (simp; omega))) | with_reducible refine Mw.Bk.alloc ?_ _ | with_reducible refine Mw.Bk.drewN ?_ _ | with_reducible refine Mw.Bk.drew ?_ | with_reducible assumption))); done)) (by simp [Value.oneCell']) (by decide) (by simp only [maxLen]; omega) (by omega) (by first | omega | (simp; omega)) _ rfl ?_; intro g cap w4 hown hgrow hat hlt; (try (refine (fun (hq : Bk w4 (wr.heap.size) 3 #[.int .i64 (gi a k % 9)]) => ?_) (Bk.grown (t := 3) (g := wr.heap.size) (cs := #[.int .i64 (gi a k % 9)]) ?_ hgrow ?_); (first | (rotate_left 1; focus (((repeat (first | ((with_reducible refine Mw.Bk.new' ?_); (first | rfl | (simp; done) | (simp; omega))) | with_reducible refine Mw.Bk.alloc ?_ _ | with_reducible refine Mw.Bk.drewN ?_ _ | with_reducible refine Mw.Bk.drew ?_ | with_reducible assumption))); done)) | (focus (((repeat (first | ((with_reducible refine Mw.Bk.new' ?_); (first | rfl | (simp; done) | (simp; omega))) | with_reducible refine Mw.Bk.alloc ?_ _ | with_reducible refine Mw.Bk.drewN ?_ _ | with_reducible refine Mw.Bk.drew ?_ | with_reducible assumption))); done))); focus (intro e; have h1 := hT0.1.lt _ e.symm; omega))); (try (refine (fun (hq : Bk w4 (wr.heap.size) 3 #[.int .i64 (gi b k % 9)]) => ?_) (Bk.grown (t := 3) (g := wr.heap.size) (cs := #[.int .i64 (gi b k % 9)]) ?_ hgrow ?_); (first | (rotate_left 1; focus (((repeat (first | ((with_reducible refine Mw.Bk.new' ?_); (first | rfl | (simp; done) | (simp; omega))) | with_reducible refine Mw.Bk.alloc ?_ _ | with_reducible refine Mw.Bk.drewN ?_ _ | with_reducible refine Mw.Bk.drew ?_ | with_reducible assumption))); done)) | (focus (((repeat (first | ((with_reducible refine Mw.Bk.new' ?_); (first | rfl | (simp; done) | (simp; omega))) | with_reducible refine Mw.Bk.alloc ?_ _ | with_reducible refine Mw.Bk.drewN ?_ _ | with_reducible refine Mw.Bk.drew ?_ | with_reducible assumption))); done))); focus (intro e; have h1 := hT0.1.lt _ e.symm; omega))); (try (refine (fun (hq : Bk w4 (wr.heap.size + 1) 3 #[.int .i64 (gi a k % 9)]) => ?_) (Bk.grown (t := 3) (g := wr.heap.size + 1) (cs := #[.int .i64 (gi a k % 9)]) ?_ hgrow ?_); (first | (rotate_left 1; focus (((repeat (first | ((with_reducible refine Mw.Bk.new' ?_); (first | rfl | (simp; done) | (simp; omega))) | with_reducible refine Mw.Bk.alloc ?_ _ | with_reducible refine Mw.Bk.drewN ?_ _ | with_reducible refine Mw.Bk.drew ?_ | with_reducible assumption))); done)) | (focus (((repeat (first | ((with_reducible refine Mw.Bk.new' ?_); (first | rfl | (simp; done) | (simp; omega))) | with_reducible refine Mw.Bk.alloc ?_ _ | with_reducible refine Mw.Bk.drewN ?_ _ | with_reducible refine Mw.Bk.drew ?_ | with_reducible assumption))); done))); focus (intro e; have h1 := hT0.1.lt _ e.symm; omega))); (try (refine (fun (hq : Bk w4 (wr.heap.size + 1) 3 #[.int .i64 (gi b k % 9)]) => ?_) (Bk.grown (t := 3) (g := wr.heap.size + 1) (cs := #[.int .i64 (gi b k % 9)]) ?_ hgrow ?_); (first | (rotate_left 1; focus (((repeat (first | ((with_reducible refine Mw.Bk.new' ?_); (first | rfl | (simp; done) | (simp; omega))) | with_reducible refine Mw.Bk.alloc ?_ _ | with_reducible refine Mw.Bk.drewN ?_ _ | with_reducible refine Mw.Bk.drew ?_ | with_reducible assumption))); done)) | (focus (((repeat (first | ((with_reducible refine Mw.Bk.new' ?_); (first | rfl | (simp; done) | (simp; omega))) | with_reducible refine Mw.Bk.alloc ?_ _ | with_reducible refine Mw.Bk.drewN ?_ _ | with_reducible refine Mw.Bk.drew ?_ | with_reducible assumption))); done))); focus (intro e; have h1 := hT0.1.lt _ e.symm; omega))); (first | have hT := Two.left hT hown hgrow rfl hat | have hT := Two.left hT.drew hown hgrow rfl hat | have hT := Two.left (hT.alloc _) hown hgrow rfl hat | have hT := Two.left (hT.alloc _).drew hown hgrow rfl hat | have hT := Two.left ((hT.alloc _).alloc _) hown hgrow rfl hat | have hT := Two.left ((hT.alloc _).alloc _).drew hown hgrow rfl hat); have cA := hT.cell (p := ⟨ba, oa + k, none⟩) hbA hcA; have cB := hT.cell (p := ⟨bb, ob + k, none⟩) hbB hcB; have hsz4 := hT.2.2.2.1) | (refine step_append_lies _ (by rfl) (.tmp 68) (.tmp 75) 22 (by rfl) w3.heap.size 3 i0 (.int .i64 0) 1 8 Try.underlying22 hi hz0 hz1 hz2 rfl (by decide) _ k ((xl b k).map (Value.int .i64)) (by rfl) (by first | exact hT.2.1 | exact hT.drew.2.1 | exact (hT.alloc _).2.1 | exact (hT.alloc _).drew.2.1 | exact ((hT.alloc _).alloc _).2.1 | exact ((hT.alloc _).alloc _).drew.2.1) _ 1 1 [.int .i64 (gi b k % 9)] (by rfl) rfl (by refine one_bk (t := 3) ?_; (((repeat (first | ((with_reducible refine Mw.Bk.new' ?_); (first | rfl | (simp; done) | (simp; omega))) | with_reducible refine Mw.Bk.alloc ?_ _ | with_reducible refine Mw.Bk.drewN ?_ _ | with_reducible refine Mw.Bk.drew ?_ | with_reducible assumption))); done)) (by simp [Value.oneCell']) (by decide) (by simp only [maxLen]; omega) (by omega) (by first | omega | (simp; omega)) _ rfl ?_; intro g cap w4 hown hgrow hat hlt; (try (refine (fun (hq : Bk w4 (wr.heap.size) 3 #[.int .i64 (gi a k % 9)]) => ?_) (Bk.grown (t := 3) (g := wr.heap.size) (cs := #[.int .i64 (gi a k % 9)]) ?_ hgrow ?_); (first | (rotate_left 1; focus (((repeat (first | ((with_reducible refine Mw.Bk.new' ?_); (first | rfl | (simp; done) | (simp; omega))) | with_reducible refine Mw.Bk.alloc ?_ _ | with_reducible refine Mw.Bk.drewN ?_ _ | with_reducible refine Mw.Bk.drew ?_ | with_reducible assumption))); done)) | (focus (((repeat (first | ((with_reducible refine Mw.Bk.new' ?_); (first | rfl | (simp; done) | (simp; omega))) | with_reducible refine Mw.Bk.alloc ?_ _ | with_reducible refine Mw.Bk.drewN ?_ _ | with_reducible refine Mw.Bk.drew ?_ | with_reducible assumption))); done))); focus (intro e; have h1 := hT0.2.1.lt _ e.symm; omega))); (try (refine (fun (hq : Bk w4 (wr.heap.size) 3 #[.int .i64 (gi b k % 9)]) => ?_) (Bk.grown (t := 3) (g := wr.heap.size) (cs := #[.int .i64 (gi b k % 9)]) ?_ hgrow ?_); (first | (rotate_left 1; focus (((repeat (first | ((with_reducible refine Mw.Bk.new' ?_); (first | rfl | (simp; done) | (simp; omega))) | with_reducible refine Mw.Bk.alloc ?_ _ | with_reducible refine Mw.Bk.drewN ?_ _ | with_reducible refine Mw.Bk.drew ?_ | with_reducible assumption))); done)) | (focus (((repeat (first | ((with_reducible refine Mw.Bk.new' ?_); (first | rfl | (simp; done) | (simp; omega))) | with_reducible refine Mw.Bk.alloc ?_ _ | with_reducible refine Mw.Bk.drewN ?_ _ | with_reducible refine Mw.Bk.drew ?_ | with_reducible assumption))); done))); focus (intro e; have h1 := hT0.2.1.lt _ e.symm; omega))); (try (refine (fun (hq : Bk w4 (wr.heap.size + 1) 3 #[.int .i64 (gi a k % 9)]) => ?_) (Bk.grown (t := 3) (g := wr.heap.size + 1) (cs := #[.int .i64 (gi a k % 9)]) ?_ hgrow ?_); (first | (rotate_left 1; focus (((repeat (first | ((with_reducible refine Mw.Bk.new' ?_); (first | rfl | (simp; done) | (simp; omega))) | with_reducible refine Mw.Bk.alloc ?_ _ | with_reducible refine Mw.Bk.drewN ?_ _ | with_reducible refine Mw.Bk.drew ?_ | with_reducible assumption))); done)) | (focus (((repeat (first | ((with_reducible refine Mw.Bk.new' ?_); (first | rfl | (simp; done) | (simp; omega))) | with_reducible refine Mw.Bk.alloc ?_ _ | with_reducible refine Mw.Bk.drewN ?_ _ | with_reducible refine Mw.Bk.drew ?_ | with_reducible assumption))); done))); focus (intro e; have h1 := hT0.2.1.lt _ e.symm; omega))); (try (refine (fun (hq : Bk w4 (wr.heap.size + 1) 3 #[.int .i64 (gi b k % 9)]) => ?_) (Bk.grown (t := 3) (g := wr.heap.size + 1) (cs := #[.int .i64 (gi b k % 9)]) ?_ hgrow ?_); (first | (rotate_left 1; focus (((repeat (first | ((with_reducible refine Mw.Bk.new' ?_); (first | rfl | (simp; done) | (simp; omega))) | with_reducible refine Mw.Bk.alloc ?_ _ | with_reducible refine Mw.Bk.drewN ?_ _ | with_reducible refine Mw.Bk.drew ?_ | with_reducible assumption))); done)) | (focus (((repeat (first | ((with_reducible refine Mw.Bk.new' ?_); (first | rfl | (simp; done) | (simp; omega))) | with_reducible refine Mw.Bk.alloc ?_ _ | with_reducible refine Mw.Bk.drewN ?_ _ | with_reducible refine Mw.Bk.drew ?_ | with_reducible assumption))); done))); focus (intro e; have h1 := hT0.2.1.lt _ e.symm; omega))); (first | have hT := Two.right hT hown hgrow rfl hat | have hT := Two.right hT.drew hown hgrow rfl hat | have hT := Two.right (hT.alloc _) hown hgrow rfl hat | have hT := Two.right (hT.alloc _).drew hown hgrow rfl hat | have hT := Two.right ((hT.alloc _).alloc _) hown hgrow rfl hat | have hT := Two.right ((hT.alloc _).alloc _).drew hown hgrow rfl hat); have cA := hT.cell (p := ⟨ba, oa + k, none⟩) hbA hcA; have cB := hT.cell (p := ⟨bb, ob + k, none⟩) hbB hcB; have hsz4 := hT.2.2.2.1)))
            all_goals
              go_wp2_with fail
              go_roundw
              case rel => refine ⟨k + 1, by omega, by go_num, ?_⟩; rw [Ex.out, Ey.out]; first | exact hT | exact hT.drew
              case measure => simp [intOf]; omega
          · obtain rfl : k = a.length := by omega
            obtain ⟨h1, h2, -, hsz, hb5⟩ := hT
            obtain ⟨X, hX⟩ : ∃ X, X = xl a a.length := ⟨_, rfl⟩
            obtain ⟨Y, hY⟩ : ∃ Y, Y = xl b a.length := ⟨_, rfl⟩
            rw [← hX] at h1
            rw [← hY] at h2
            have hXl : X.length = a.length := by rw [hX, xl_len]
            have hYl : Y.length = X.length := by rw [hY, xl_len, hXl]
            have hXt : tg X = false := by rw [hX]; exact tg_xl a h24
            have hYt : tg Y = false := by rw [hY, Hl.out]; exact tg_xl b (by omega)
            obtain ⟨A1, c1, rfl, hr1, ha1⟩ := own_ints h1
            obtain ⟨A2, c2, rfl, hr2, ha2⟩ := own_ints h2
            have hX24 : X.length ≤ 24 := by omega
            have hXb : ∀ j, j < X.length → 0 ≤ gi X j ∧ gi X j ≤ 8 := fun j hj => by rw [hX, xl_at a _ j (by omega)]; omega
            have HXl := Lib.hid hXl
            have HYl := Lib.hid hYl
            have hB9' := hB9.below hb5 hz9
            have hB10' := hB10.below hb5 hz10
            have hc5 : Below w.heap.size w wr := hc3.trans (hb5.mono hc3.size)
            have G1 := Lib.hid (gd_self r X Hck.out hXt)
            have G2 := Lib.hid (gd_comm r Y X)
            have G3 : Hid (gd r X Y = gd r (rvl X X.length) (rvl Y X.length)) := by unfold Hid; have h := gd_rev r X Y hYl.symm hXt hYt; rwa [hYl] at h
            have G4 := Lib.hid (gd_wide r q X Y Hq.out Hqp.out.1 Hqp.out.2)
            clear hX hY hXl h1 h2 hb5 hB9 hB10 hra3 hrb3 Hai Hbi ha1 ha2 hXb
            rw [hYl]
            clear hYl
            obtain ⟨w5, rfl⟩ : ∃ w5 : World, w5 = wr := ⟨_, rfl⟩
            go_wp2_with fail
            go_loopw [13, 14, 16] (fun vx vy i wr => ∃ m : Nat, m ≤ X.length ∧ i = .int .i64 ((X.length : Int) - 1 - (m : Int)) ∧ Two w5 wr w5.heap.size 3 vx vy m m ((rvl X m).map (Value.int .i64)) ((rvl Y m).map (Value.int .i64))) (fun _ _ i _ => (intOf i + 1).toNat)
            case atStart => exact ⟨0, by omega, by simp, Two.start _ _⟩
            case round =>
              obtain ⟨m, hm, rfl, hT⟩ := hrel
              by_cases hlt : m < X.length
              · obtain ⟨ba, oa, rfl, hbA, hcA⟩ := hr1 (X.length - 1 - m) (by omega)
                obtain ⟨bb, ob, rfl, hbB, hcB⟩ := hr2 (X.length - 1 - m) (by rw [HYl.out]; omega)
                have cA := hT.cell (p := ⟨ba, oa + (X.length - 1 - m), none⟩) hbA hcA
                have cB := hT.cell (p := ⟨bb, ob + (X.length - 1 - m), none⟩) hbB hcB
                have hsz := hT.2.2.2.1
                have hT0 := hT
                have Ex : Hid ((rvl X (m + 1)).map (Value.int .i64) = (rvl X m).map (Value.int .i64) ++ [.int .i64 (gi X (X.length - 1 - m))]) := by unfold Hid; rw [show rvl X (m + 1) = rvl X m ++ [gi X (X.length - 1 - m)] from rfl, List.map_append]; rfl
                have Ey : Hid ((rvl Y (m + 1)).map (Value.int .i64) = (rvl Y m).map (Value.int .i64) ++ [.int .i64 (gi Y (X.length - 1 - m))]) := by unfold Hid; rw [show rvl Y (m + 1) = rvl Y m ++ [gi Y (Y.length - 1 - m)] from rfl, List.map_append, HYl.out]; rfl
                have hki : (0 : Int) ≤ (X.length : Int) - 1 - (m : Int) := by omega
                have hkj : (X.length : Int) - 1 - (m : Int) < X.length := by omega
                have hkn : ((X.length : Int) - 1 - (m : Int)).toNat = X.length - 1 - m := by omega
                go_wp2_with fail
                go_region_held3 (fun w' => w'.cell? ⟨ba, oa + (X.length - 1 - m), none⟩ = some (.int .i64 (gi X (X.length - 1 - m))) ∧ w'.cell? ⟨bb, ob + (X.length - 1 - m), none⟩ = some (.int .i64 (gi Y (X.length - 1 - m)))) ((refine ⟨?_, ?_⟩ <;> (repeat (first | with_reducible assumption | with_reducible refine Mw.cell_alloc ?_ _ | with_reducible refine Mw.cell_drew ?_ | with_reducible refine Mw.cell_far ?_ (by first | assumption | omega | (simp; omega)) _)))) ((first | (refine step_append_lies _ (by rfl) (.tmp 85) (.tmp 90) 22 (by rfl) w5.heap.size 3 i0 (.int .i64 0) 1 8 Try.underlying22 hi hz0 hz1 hz2 rfl (by decide) _ m ((rvl X m).map (Value.int .i64)) (by rfl) (by first | exact hT.1 | exact hT.drew.1 | exact (hT.alloc _).1 | exact (hT.alloc _).drew.1 | exact ((hT.alloc _).alloc _).1 | exact ((hT.alloc _).alloc _).drew.1) _ 1 1 [.int .i64 (gi X (X.length - 1 - m))] (by rfl) rfl (by refine one_bk (t := 3) ?_; (((repeat (first | ((with_reducible refine Mw.Bk.new' ?_); (first | rfl | (simp; done) | (simp; omega))) | with_reducible refine Mw.Bk.alloc ?_ _ | with_reducible refine Mw.Bk.drewN ?_ _ | with_reducible refine Mw.Bk.drew ?_ | with_reducible assumption))); done)) (by simp [Value.oneCell']) (by decide) (by simp only [maxLen]; omega) (by omega) (by first | omega | (simp; omega)) _ rfl ?_; intro g cap w4 hown hgrow hat hlt; (try (refine (fun (hq : Bk w4 (wr.heap.size) 3 #[.int .i64 (gi X (X.length - 1 - m))]) => ?_) (Bk.grown (t := 3) (g := wr.heap.size) (cs := #[.int .i64 (gi X (X.length - 1 - m))]) ?_ hgrow ?_); (first | (rotate_left 1; focus (((repeat (first | ((with_reducible refine Mw.Bk.new' ?_); (first | rfl | (simp; done) | (simp; omega))) | with_reducible refine Mw.Bk.alloc ?_ _ | with_reducible refine Mw.Bk.drewN ?_ _ | with_reducible refine Mw.Bk.drew ?_ | with_reducible assumption))); done)) | (focus (((repeat (first | ((with_reducible refine Mw.Bk.new' ?_); (first | rfl | (simp; done) | (simp; omega))) | with_reducible refine Mw.Bk.alloc ?_ _ | with_reducible refine Mw.Bk.drewN ?_ _ | with_reducible refine Mw.Bk.drew ?_ | with_reducible assumption))); done))); focus (intro e; have h1 := hT0.1.lt _ e.symm; omega))); (try (refine (fun (hq : Bk w4 (wr.heap.size) 3 #[.int .i64 (gi Y (X.length - 1 - m))]) => ?_) (Bk.grown (t := 3) (g := wr.heap.size) (cs := #[.int .i64 (gi Y (X.length - 1 - m))]) ?_ hgrow ?_); (first | (rotate_left 1; focus (((repeat (first | ((with_reducible refine Mw.Bk.new' ?_); (first | rfl | (simp; done) | (simp; omega))) | with_reducible refine Mw.Bk.alloc ?_ _ | with_reducible refine Mw.Bk.drewN ?_ _ | with_reducible refine Mw.Bk.drew ?_ | with_reducible assumption))); done)) | (focus (((repeat (first | ((with_reducible refine Mw.Bk.new' ?_); (first | rfl | (simp; done) | (simp; omega))) | with_reducible refine Mw.Bk.alloc ?_ _ | with_reducible refine Mw.Bk.drewN ?_ _ | with_reducible refine Mw.Bk.drew ?_ | with_reducible assumption))); done))); focus (intro e; have h1 := hT0.1.lt _ e.symm; omega))); (try (refine (fun (hq : Bk w4 (wr.heap.size + 1) 3 #[.int .i64 (gi X (X.length - 1 - m))]) => ?_) (Bk.grown (t := 3) (g := wr.heap.size + 1) (cs := #[.int .i64 (gi X (X.length - 1 - m))]) ?_ hgrow ?_); (first | (rotate_left 1; focus (((repeat (first | ((with_reducible refine Mw.Bk.new' ?_); (first | rfl | (simp; done) | (simp; omega))) | with_reducible refine Mw.Bk.alloc ?_ _ | with_reducible refine Mw.Bk.drewN ?_ _ | with_reducible refine Mw.Bk.drew ?_ | with_reducible assumption))); done)) | (focus (((repeat (first | ((with_reducible refine Mw.Bk.new' ?_); (first | rfl | (simp; done) | (simp; omega))) | with_reducible refine Mw.Bk.alloc ?_ _ | with_reducible refine Mw.Bk.drewN ?_ _ | with_reducible refine Mw.Bk.drew ?_ | with_reducible assumption))); done))); focus (intro e; have h1 := hT0.1.lt _ e.symm; omega))); (try (refine (fun (hq : Bk w4 (wr.heap.size + 1) 3 #[.int .i64 (gi Y (X.length - 1 - m))]) => ?_) (Bk.grown (t := 3) (g := wr.heap.size + 1) (cs := #[.int .i64 (gi Y (X.length - 1 - m))]) ?_ hgrow ?_); (first | (rotate_left 1; focus (((repeat (first | ((with_reducible refine Mw.Bk.new' ?_); (first | rfl | (simp; done) | (simp; omega))) | with_reducible refine Mw.Bk.alloc ?_ _ | with_reducible refine Mw.Bk.drewN ?_ _ | with_reducible refine Mw.Bk.drew ?_ | with_reducible assumption))); done)) | (focus (((repeat (first | ((with_reducible refine Mw.Bk.new' ?_); (first | rfl | (simp; done) | (simp; omega))) | with_reducible refine Mw.Bk.alloc ?_ _ | with_reducible refine Mw.Bk.drewN ?_ _ | with_reducible refine Mw.Bk.drew ?_ | with_reducible assumption))); done))); focus (intro e; have h1 := hT0.1.lt _ e.symm; omega))); (first | have hT := Two.left hT hown hgrow rfl hat | have hT := Two.left hT.drew hown hgrow rfl hat | have hT := Two.left (hT.alloc _) hown hgrow rfl hat | have hT := Two.left (hT.alloc _).drew hown hgrow rfl hat | have hT := Two.left ((hT.alloc _).alloc _) hown hgrow rfl hat | have hT := Two.left ((hT.alloc _).alloc _).drew hown hgrow rfl hat); have cA := hT.cell (p := ⟨ba, oa + (X.length - 1 - m), none⟩) hbA hcA; have cB := hT.cell (p := ⟨bb, ob + (X.length - 1 - m), none⟩) hbB hcB; have hsz4 := hT.2.2.2.1) | (refine step_append_lies _ (by rfl) (.tmp 92) (.tmp 97) 22 (by rfl) w5.heap.size 3 i0 (.int .i64 0) 1 8 Try.underlying22 hi hz0 hz1 hz2 rfl (by decide) _ m ((rvl Y m).map (Value.int .i64)) (by rfl) (by first | exact hT.2.1 | exact hT.drew.2.1 | exact (hT.alloc _).2.1 | exact (hT.alloc _).drew.2.1 | exact ((hT.alloc _).alloc _).2.1 | exact ((hT.alloc _).alloc _).drew.2.1) _ 1 1 [.int .i64 (gi Y (X.length - 1 - m))] (by rfl) rfl (by refine one_bk (t := 3) ?_; (((repeat (first | ((with_reducible refine Mw.Bk.new' ?_); (first | rfl | (simp; done) | (simp; omega))) | with_reducible refine Mw.Bk.alloc ?_ _ | with_reducible refine Mw.Bk.drewN ?_ _ | with_reducible refine Mw.Bk.drew ?_ | with_reducible assumption))); done)) (by simp [Value.oneCell']) (by decide) (by simp only [maxLen]; omega) (by omega) (by first | omega | (simp; omega)) _ rfl ?_; intro g cap w4 hown hgrow hat hlt; (try (refine (fun (hq : Bk w4 (wr.heap.size) 3 #[.int .i64 (gi X (X.length - 1 - m))]) => ?_) (Bk.grown (t := 3) (g := wr.heap.size) (cs := #[.int .i64 (gi X (X.length - 1 - m))]) ?_ hgrow ?_); (first | (rotate_left 1; focus (((repeat (first | ((with_reducible refine Mw.Bk.new' ?_); (first | rfl | (simp; done) | (simp; omega))) | with_reducible refine Mw.Bk.alloc ?_ _ | with_reducible refine Mw.Bk.drewN ?_ _ | with_reducible refine Mw.Bk.drew ?_ | with_reducible assumption))); done)) | (focus (((repeat (first | ((with_reducible refine Mw.Bk.new' ?_); (first | rfl | (simp; done) | (simp; omega))) | with_reducible refine Mw.Bk.alloc ?_ _ | with_reducible refine Mw.Bk.drewN ?_ _ | with_reducible refine Mw.Bk.drew ?_ | with_reducible assumption))); done))); focus (intro e; have h1 := hT0.2.1.lt _ e.symm; omega))); (try (refine (fun (hq : Bk w4 (wr.heap.size) 3 #[.int .i64 (gi Y (X.length - 1 - m))]) => ?_) (Bk.grown (t := 3) (g := wr.heap.size) (cs := #[.int .i64 (gi Y (X.length - 1 - m))]) ?_ hgrow ?_); (first | (rotate_left 1; focus (((repeat (first | ((with_reducible refine Mw.Bk.new' ?_); (first | rfl | (simp; done) | (simp; omega))) | with_reducible refine Mw.Bk.alloc ?_ _ | with_reducible refine Mw.Bk.drewN ?_ _ | with_reducible refine Mw.Bk.drew ?_ | with_reducible assumption))); done)) | (focus (((repeat (first | ((with_reducible refine Mw.Bk.new' ?_); (first | rfl | (simp; done) | (simp; omega))) | with_reducible refine Mw.Bk.alloc ?_ _ | with_reducible refine Mw.Bk.drewN ?_ _ | with_reducible refine Mw.Bk.drew ?_ | with_reducible assumption))); done))); focus (intro e; have h1 := hT0.2.1.lt _ e.symm; omega))); (try (refine (fun (hq : Bk w4 (wr.heap.size + 1) 3 #[.int .i64 (gi X (X.length - 1 - m))]) => ?_) (Bk.grown (t := 3) (g := wr.heap.size + 1) (cs := #[.int .i64 (gi X (X.length - 1 - m))]) ?_ hgrow ?_); (first | (rotate_left 1; focus (((repeat (first | ((with_reducible refine Mw.Bk.new' ?_); (first | rfl | (simp; done) | (simp; omega))) | with_reducible refine Mw.Bk.alloc ?_ _ | with_reducible refine Mw.Bk.drewN ?_ _ | with_reducible refine Mw.Bk.drew ?_ | with_reducible assumption))); done)) | (focus (((repeat (first | ((with_reducible refine Mw.Bk.new' ?_); (first | rfl | (simp; done) | (simp; omega))) | with_reducible refine Mw.Bk.alloc ?_ _ | with_reducible refine Mw.Bk.drewN ?_ _ | with_reducible refine Mw.Bk.drew ?_ | with_reducible assumption))); done))); focus (intro e; have h1 := hT0.2.1.lt _ e.symm; omega))); (try (refine (fun (hq : Bk w4 (wr.heap.size + 1) 3 #[.int .i64 (gi Y (X.length - 1 - m))]) => ?_) (Bk.grown (t := 3) (g := wr.heap.size + 1) (cs := #[.int .i64 (gi Y (X.length - 1 - m))]) ?_ hgrow ?_); (first | (rotate_left 1; focus (((repeat (first | ((with_reducible refine Mw.Bk.new' ?_); (first | rfl | (simp; done) | (simp; omega))) | with_reducible refine Mw.Bk.alloc ?_ _ | with_reducible refine Mw.Bk.drewN ?_ _ | with_reducible refine Mw.Bk.drew ?_ | with_reducible assumption))); done)) | (focus (((repeat (first | ((with_reducible refine Mw.Bk.new' ?_); (first | rfl | (simp; done) | (simp; omega))) | with_reducible refine Mw.Bk.alloc ?_ _ | with_reducible refine Mw.Bk.drewN ?_ _ | with_reducible refine Mw.Bk.drew ?_ | with_reducible assumption))); done))); focus (intro e; have h1 := hT0.2.1.lt _ e.symm; omega))); (first | have hT := Two.right hT hown hgrow rfl hat | have hT := Two.right hT.drew hown hgrow rfl hat | have hT := Two.right (hT.alloc _) hown hgrow rfl hat | have hT := Two.right (hT.alloc _).drew hown hgrow rfl hat | have hT := Two.right ((hT.alloc _).alloc _) hown hgrow rfl hat | have hT := Two.right ((hT.alloc _).alloc _).drew hown hgrow rfl hat); have cA := hT.cell (p := ⟨ba, oa + (X.length - 1 - m), none⟩) hbA hcA; have cB := hT.cell (p := ⟨bb, ob + (X.length - 1 - m), none⟩) hbB hcB; have hsz4 := hT.2.2.2.1)))
                all_goals
                  go_wp2_with fail
                  go_roundw
                  case rel => refine ⟨m + 1, by omega, by go_num, ?_⟩; rw [Ex.out, Ey.out]; first | exact hT | exact hT.drew
                  case measure => simp [intOf]; omega
              · obtain rfl : m = X.length := by omega
                obtain ⟨h1, h2, -, hsz, hb6⟩ := hT
                obtain ⟨U, hU⟩ : ∃ U, U = rvl X X.length := ⟨_, rfl⟩
                obtain ⟨V, hV⟩ : ∃ V, V = rvl Y X.length := ⟨_, rfl⟩
                rw [← hU] at h1
                rw [← hV] at h2
                have hUl : U.length = X.length := by rw [hU, rvl_len]
                have hVl : V.length = X.length := by rw [hV, rvl_len]
                obtain ⟨A3, c3, rfl, hr3, -⟩ := own_ints h1
                obtain ⟨A4, c4, rfl, hr4, -⟩ := own_ints h2
                rw [← hU, ← hV] at G3
                have hr1' := hr1.old hb6
                have hr2' := hr2.old hb6
                have hB9 := hB9'.old hb6
                have hB10 := hB10'.old hb6
                have hc6 := bl_trans hc5 hb6
                obtain ⟨gg, hgg⟩ : ∃ gg, gg = gd r X Y := ⟨_, rfl⟩
                have HXY := Lib.hid (show ∀ W, RdI W .i64 A1 X → RdI W .i64 A2 Y → Calls Try.prog 16 #[rv r, .slice A1 X.length c1, .slice A2 X.length c2] W fun e w' => e = .returned (.bool gg) ∧ Below W.heap.size W w' from fun W h h' => by have h3 := good_any r X Y A1 A2 c1 c2 W (by omega) (by rw [HYl.out]; omega) h h'; rw [HYl.out] at h3; rw [hgg]; exact h3)
                have HXX := Lib.hid (show ∀ W, RdI W .i64 A1 X → Calls Try.prog 16 #[rv r, .slice A1 X.length c1, .slice A1 X.length c1] W fun e w' => e = .returned (.bool true) ∧ Below W.heap.size W w' from fun W h => by have h3 := good_any r X X A1 A1 c1 c1 W (by omega) (by omega) h h; rwa [G1.out] at h3)
                have HYX := Lib.hid (show ∀ W, RdI W .i64 A1 X → RdI W .i64 A2 Y → Calls Try.prog 16 #[rv r, .slice A2 X.length c2, .slice A1 X.length c1] W fun e w' => e = .returned (.bool gg) ∧ Below W.heap.size W w' from fun W h h' => by have h3 := good_any r Y X A2 A1 c2 c1 W (by rw [HYl.out]; omega) (by omega) h' h; rw [HYl.out, G2.out] at h3; rw [hgg]; exact h3)
                have HUV := Lib.hid (show ∀ W, RdI W .i64 A3 U → RdI W .i64 A4 V → Calls Try.prog 16 #[rv r, .slice A3 X.length c3, .slice A4 X.length c4] W fun e w' => e = .returned (.bool gg) ∧ Below W.heap.size W w' from fun W h h' => by have h3 := good_any r U V A3 A4 c3 c4 W (by omega) (by omega) h h'; rw [hUl, hVl, ← G3.out] at h3; rw [hgg]; exact h3)
                have HQ := Lib.hid (show gg = true → ∀ W, RdI W .i64 A1 X → RdI W .i64 A2 Y → Calls Try.prog 16 #[rv q, .slice A1 X.length c1, .slice A2 X.length c2] W fun e w' => e = .returned (.bool true) ∧ Below W.heap.size W w' from fun hg W h h' => by have h3 := good_any q X Y A1 A2 c1 c2 W (by omega) (by rw [HYl.out]; omega) h h'; rw [HYl.out, G4.out (by rw [← hgg]; exact hg)] at h3; exact h3)
                rw [hUl, hVl]
                clear hgg hU hV hUl hVl h1 h2 G1 G2 G3 G4 hB9' hB10' hr1 hr2 hb6 hc5
                obtain ⟨⟨k0, k1, k2, k3⟩, -⟩ := bk4 hB9
                obtain ⟨⟨q0, q1, q2, q3⟩, -⟩ := bk4 hB10
                go_wp2_with fail
                refine (HXY.out _ hr1' hr2').mono ?_
                rintro e x1 ⟨rfl, hx1⟩
                have hB9a := hB9.old hx1
                have hB10a := hB10.old hx1
                have hr1a := hr1'.old hx1
                have hr2a := hr2'.old hx1
                have hr3a := hr3.old hx1
                have hr4a := hr4.old hx1
                have hca := bl_trans hc6 hx1
                clear hx1 hB9 hB10 hr1' hr2' hr3 hr4 hc6 k0 k1 k2 k3 q0 q1 q2 q3
                obtain ⟨⟨k0, k1, k2, k3⟩, -⟩ := bk4 hB9a
                go_wp2_with fail
                refine (HXX.out _ hr1a).mono ?_
                rintro e x2 ⟨rfl, hx1⟩
                have hB9b := hB9a.old hx1
                have hB10b := hB10a.old hx1
                have hr1b := hr1a.old hx1
                have hr2b := hr2a.old hx1
                have hr3b := hr3a.old hx1
                have hr4b := hr4a.old hx1
                have hcb2 := bl_trans hca hx1
                clear hx1 hB9a hB10a hr1a hr2a hr3a hr4a hca k0 k1 k2 k3
                obtain ⟨⟨k0, k1, k2, k3⟩, -⟩ := bk4 hB9b
                go_wp2_with fail
                refine (HYX.out _ hr1b hr2b).mono ?_
                rintro e x3 ⟨rfl, hx1⟩
                have hB9c := hB9b.old hx1
                have hB10c := hB10b.old hx1
                have hr1c := hr1b.old hx1
                have hr2c := hr2b.old hx1
                have hr3c := hr3b.old hx1
                have hr4c := hr4b.old hx1
                have hcc := bl_trans hcb2 hx1
                clear hx1 hB9b hB10b hr1b hr2b hr3b hr4b hcb2 k0 k1 k2 k3
                obtain ⟨⟨k0, k1, k2, k3⟩, -⟩ := bk4 hB9c
                go_wp2_with fail
                refine (HUV.out _ hr3c hr4c).mono ?_
                rintro e x4 ⟨rfl, hx1⟩
                have hB10d := hB10c.old hx1
                have hr1d := hr1c.old hx1
                have hr2d := hr2c.old hx1
                have hcd := bl_trans hcc hx1
                clear hx1 hB9c hB10c hr1c hr2c hr3c hr4c hcc k0 k1 k2 k3
                obtain ⟨⟨k0, k1, k2, k3⟩, -⟩ := bk4 hB10d
                cases gg
                · go_wp2_with fail
                  refine (sane_any _).mono ?_
                  rintro e x5 ⟨rfl, hx5⟩
                  go_wp2_with fail
                  go_ret
                  exact ⟨rfl, bl_trans hcd hx5⟩
                · go_wp2_with fail
                  refine (HQ.out (by first | trivial | rfl) _ hr1d hr2d).mono ?_
                  rintro e x5 ⟨rfl, hx5⟩
                  have hce := bl_trans hcd hx5
                  go_wp2_with fail
                  refine (sane_any _).mono ?_
                  rintro e x6 ⟨rfl, hx6⟩
                  go_wp2_with fail
                  go_ret
                  exact ⟨rfl, bl_trans hce hx6⟩
      · have hn : ((a.length : Int) != b.length) = true := by simp; omega
        go_enter Try.func6, Try.ntmps6
        go_wp2_with (go_at_call 8; refine (light_any t A c _).mono ?_; rintro e w' ⟨rfl, rfl⟩)
        refine (sane_any _).mono ?_
        rintro e w5 ⟨rfl, hb5⟩
        go_wp2_with fail
        go_ret
        exact ⟨rfl, hb5⟩
    · have h24' : decide (24 < (a.length : Int)) = true := decide_eq_true (by omega)
      go_enter Try.func6, Try.ntmps6
      go_wp2_with (go_at_call 8; refine (light_any t A c _).mono ?_; rintro e w' ⟨rfl, rfl⟩)
      refine (sane_any _).mono ?_
      rintro e w5 ⟨rfl, hb5⟩
      go_wp2_with fail
      go_ret
      exact ⟨rfl, hb5⟩
  · have h6' : decide (t.length ≤ 600) = false := decide_eq_false h6
    go_enter Try.func6, Try.ntmps6
    go_wp2_with (go_at_call 8; refine (light_any t A c _).mono ?_; rintro e w' ⟨rfl, rfl⟩)
    refine (sane_any _).mono ?_
    rintro e w5 ⟨rfl, hb5⟩
    go_wp2_with fail
    go_ret
    exact ⟨rfl, hb5⟩
end Go.Proofs.Ytpgkiiaoddhdcaa.Mo
