/- Walks: same; Step and Run of both sides under one word. -/
import Derived.Test.YtpgkiiaoddhdcaaMK
import Derived.WalkKit
import Derived.WalkSpells
import Derived.WalkLawsBesides
import Derived.Deep.QuietTactic
import Derived.BigQuiet
import Derived.Deep.Draws
import Derived.Deep.AppendLies
import Derived.Laws.OwnMore
import Derived.Laws.BytesArg
import Derived.Lib.Hide
import Derived.Deep.LoopGhost
namespace Go.Proofs.Ytpgkiiaoddhdcaa.Mo
open Go.RowKit Go.Proofs.Ytpgkiiaoddhdcaa.Mw Go.Proofs.Ytpgkiiaoddhdcaa.Dc
set_option linter.unusedVariables false

/-- What a step returns. -/
def stF (r : Rl) (l : List Bool) (s g : Bool) : List Bool × Bool × Int := if vld r l s = true then (if s = true then ([], false, 8) else (nx r.w.toNat l g, fl r (nx r.w.toNat l g), 0)) else ([], false, 1)
def SG (r : Rl) (l : List Bool) (s g : Bool) (w : World) (e : Ending) (w' : World) : Prop := ∃ A c, e = .returned (.tuple #[wv A (stF r l s g).1 c (stF r l s g).2.1, .int .i64 (stF r l s g).2.2]) ∧ RdB w' A (stF r l s g).1 ∧ (stF r l s g).1.length ≤ 21 ∧ (∀ a, A = some a → w.heap.size ≤ a.block ∧ a.block < w'.heap.size) ∧ Below w.heap.size w w'
theorem stF_inv {r : Rl} {l : List Bool} {s g : Bool} (h : vld r l s = false) : stF r l s g = ([], false, 1) := if_neg (by simp [h])
theorem stF_sus {r : Rl} {l : List Bool} {g : Bool} (h : vld r l true = true) : stF r l true g = ([], false, 8) := by unfold stF; rw [if_pos h, if_pos rfl]
theorem stF_ok {r : Rl} {l : List Bool} {g : Bool} (h : vld r l false = true) : stF r l false g = (nx r.w.toNat l g, fl r (nx r.w.toNat l g), 0) := by unfold stF; rw [if_pos h, if_neg (by simp)]
theorem nx_21 {r : Rl} {l : List Bool} {s g : Bool} (h : vld r l s = true) : (nx r.w.toNat l g).length ≤ 21 := by
  obtain ⟨h1, h2⟩ := vld_chk h
  have := chk_bd h1
  rw [nx_len _ _ _ (by omega) (by omega)]
  omega
theorem step_gen (r : Rl) (l : List Bool) (A : Option Addr) (c : Nat) (s g : Bool) (w : World) (hl : l.length ≤ 1000000) (hr : RdB w A l) :
    Calls Try.prog 23 #[rv r, wv A l c s, .bool g] w (SG r l s g w) := by
  cases hv : vld r l s
  · refine (step_inv r l A c s g hv w hl hr).mono fun e w' ⟨he, hb⟩ => ?_
    unfold SG
    rw [stF_inv hv]
    exact ⟨none, 0, he, RdB.nil _ _, by simp, (fun a ha => by cases ha), hb⟩
  · cases s
    · refine (step_ok r l A c g hv w hr).mono fun e w' ⟨A', c', he, h1, h2, hb⟩ => ?_
      unfold SG
      rw [stF_ok hv]
      exact ⟨A', c', he, h1, nx_21 hv, h2, hb⟩
    · refine (step_sus r l A c g hv w hl hr).mono fun e w' ⟨he, hb⟩ => ?_
      unfold SG
      rw [stF_sus hv]
      exact ⟨none, 0, he, RdB.nil _ _, by simp, (fun a ha => by cases ha), hb⟩
theorem rstep_gen (r : Rl) (l : List Bool) (A : Option Addr) (c : Nat) (s g : Bool) (w : World) (hl : l.length ≤ 1000000) (hr : RdB w A l) :
    Calls Try.prog 24 #[rv r, wv A l c s, .bool g] w (SG r l s g w) := by
  cases hv : vld r l s
  · refine (rstep_inv r l A c s g hv w hl hr).mono fun e w' ⟨he, hb⟩ => ?_
    unfold SG
    rw [stF_inv hv]
    exact ⟨none, 0, he, RdB.nil _ _, by simp, (fun a ha => by cases ha), hb⟩
  · cases s
    · refine (rstep_ok r l A c g hv w hr).mono fun e w' ⟨A', c', he, h1, h2, hb⟩ => ?_
      unfold SG
      rw [stF_ok hv]
      exact ⟨A', c', he, h1, nx_21 hv, h2, hb⟩
    · refine (rstep_sus r l A c g hv w hl hr).mono fun e w' ⟨he, hb⟩ => ?_
      unfold SG
      rw [stF_sus hv]
      exact ⟨none, 0, he, RdB.nil _ _, by simp, (fun a ha => by cases ha), hb⟩
theorem run_both (r : Rl) (l : List Bool) (A : Option Addr) (c : Nat) (hl : l.length ≤ 1000000) : ∃ p q e : Int, (∀ w : World, RdB w A l → Calls Try.prog 20 #[rv r, .slice A l.length c] w fun x w' => x = .returned (.tuple #[.int .i64 p, .int .i64 q, .int .i64 e]) ∧ Below w.heap.size w w') ∧ (∀ w : World, RdB w A l → Calls Try.prog 21 #[rv r, .slice A l.length c] w fun x w' => x = .returned (.tuple #[.int .i64 p, .int .i64 q, .int .i64 e]) ∧ Below w.heap.size w w') := by
  cases hc : chk r
  · exact ⟨0, 0, 2, fun w _ => run_no r l A c hc w, fun w _ => rrun_no r l A c hc w⟩
  · exact ⟨runS r l, runG r l, 0, fun w h => run_yes r l A c hc w hl h, fun w h => rrun_yes r l A c hc w hl h⟩

set_option maxHeartbeats 1000000 in
theorem same_any (l : List Bool) (A B : Option Addr) (c d : Nat) (s : Bool) (w : World) (hl : l.length ≤ 1000000) (ha : RdB w A l) (hb : RdB w B l) :
    Calls Try.prog 25 #[wv A l c s, wv B l d s] w fun e w' => e = .returned (.bool true) ∧ Below w.heap.size w w' := by
  have HA := Lib.hid ha
  have HB := Lib.hid hb
  clear ha hb
  go_enter Try.func25, Try.ntmps25
  go_wp2_with fail
  go_loopw [23] (fun i wr => ∃ k : Nat, k ≤ l.length ∧ i = .int .i64 k ∧ Bk wr w.heap.size 27 (wc A l c s) ∧ Bk wr (w.heap.size + 1) 27 (wc B l d s) ∧ Below w.heap.size w wr) (fun i _ => l.length - (intOf i).toNat)
  case atStart => exact ⟨0, by omega, rfl, by (repeat (first | ((with_reducible refine Mw.Bk.new' ?_); (first | rfl | (simp; done) | (simp; omega))) | with_reducible refine Mw.Bk.alloc ?_ _ | with_reducible refine Mw.Bk.drewN ?_ _ | with_reducible refine Mw.Bk.drew ?_ | with_reducible assumption)), by (repeat (first | ((with_reducible refine Mw.Bk.new' ?_); (first | rfl | (simp; done) | (simp; omega))) | with_reducible refine Mw.Bk.alloc ?_ _ | with_reducible refine Mw.Bk.drewN ?_ _ | with_reducible refine Mw.Bk.drew ?_ | with_reducible assumption)), by (repeat (first | with_reducible exact Below.refl _ _ | with_reducible refine bl_drewN ?_ _ | with_reducible refine Below.drew ?_ | with_reducible refine bl_alloc ?_ _ | with_reducible refine Below.alloc ?_ (by first | omega | (simp; done) | (simp; omega)) _ | with_reducible refine Below.setCell ?_ (by first | omega | (simp; done) | (simp; omega)) _ | with_reducible assumption))⟩
  case round =>
    obtain ⟨k, hk, rfl, hX, hY, hc⟩ := hrel
    have z1 := hX.lt
    have z2 := hY.lt
    by_cases hlt : k < l.length
    · obtain ⟨b, o, rfl, hb1, c1⟩ := (HA.out.old hc) k hlt
      obtain ⟨b', o', rfl, hb2, c2⟩ := (HB.out.old hc) k hlt
      obtain ⟨⟨j0, j1⟩, -⟩ := bk2 hX
      obtain ⟨⟨i0, i1⟩, -⟩ := bk2 hY
      have hki : (0 : Int) ≤ k := by omega
      have hkj : (k : Int) < l.length := by omega
      go_wp2_with fail
      refine Mm.region_ext (by kernel_rfl) (by kernel_rfl) ?_; (repeat (first | go_big_quiet_step (fail) | quiet_step (fail))); refine wpQuiet_nil ?_
      intro w5 hb5
      have hX5 := hX.old hb5
      have hY5 := hY.old hb5
      have hc5 := bl_trans hc hb5
      clear hb5 hX hY hc j0 j1 i0 i1 c1 c2
      go_wp2_with fail
      go_roundw
      case rel => exact ⟨k + 1, by omega, by go_num, hX5, hY5, hc5⟩
      case measure => simp [intOf]; omega
    · go_wp2_with fail
      go_ret
      exact ⟨rfl, hc⟩

theorem rule_0 (a b c d e f g h i j k l : Value) (w : World) : (Instr.index 35 (.agg #[a, b, c, d, e, f, g, h, i, j, k, l]) (.int .i64 0)).run Try.prog w = .ok (.agg #[a, b, c, d]) w := by kernel_rfl
theorem rule_1 (a b c d e f g h i j k l : Value) (w : World) : (Instr.index 35 (.agg #[a, b, c, d, e, f, g, h, i, j, k, l]) (.int .i64 1)).run Try.prog w = .ok (.agg #[e, f, g, h]) w := by kernel_rfl
theorem rule_2 (a b c d e f g h i j k l : Value) (w : World) : (Instr.index 35 (.agg #[a, b, c, d, e, f, g, h, i, j, k, l]) (.int .i64 2)).run Try.prog w = .ok (.agg #[i, j, k, l]) w := by kernel_rfl
/-- One of three rules. -/
def rsel (k : Nat) (r q s : Rl) : Rl := if k = 0 then r else if k = 1 then q else s
theorem rule_at (r q s : Rl) (k : Nat) (hk : k < 3) (w : World) : (Instr.index 35 (.agg #[.int .i64 r.p, .int .i64 r.t, .int .i64 r.w, .int .i64 r.f, .int .i64 q.p, .int .i64 q.t, .int .i64 q.w, .int .i64 q.f, .int .i64 s.p, .int .i64 s.t, .int .i64 s.w, .int .i64 s.f]) (.int .i64 k)).run Try.prog w = .ok (rv (rsel k r q s)) w := by
  have : k = 0 ∨ k = 1 ∨ k = 2 := by omega
  rcases this with h | h | h <;> subst h
  · exact rule_0 _ _ _ _ _ _ _ _ _ _ _ _ w
  · exact rule_1 _ _ _ _ _ _ _ _ _ _ _ _ w
  · exact rule_2 _ _ _ _ _ _ _ _ _ _ _ _ w
theorem watch_0 (a b c d : Value) (w : World) : (Instr.index 43 (.agg #[a, b, c, d]) (.int .i64 0)).run Try.prog w = .ok (.agg #[a, b]) w := by kernel_rfl
theorem watch_1 (a b c d : Value) (w : World) : (Instr.index 43 (.agg #[a, b, c, d]) (.int .i64 1)).run Try.prog w = .ok (.agg #[c, d]) w := by kernel_rfl
theorem rdi_ext {w : World} {kd : IntKind} {A : Option Addr} {l : List Int} (h : RdI w kd A l) (x : Mm.Ex) : RdI (Mm.ext w x) kd A l := h.old (Mm.ext_below w x)
end Go.Proofs.Ytpgkiiaoddhdcaa.Mo
