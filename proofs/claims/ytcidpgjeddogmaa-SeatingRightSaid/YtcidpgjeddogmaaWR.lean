/- Walk: ref15.Neighbours; neighbouring seats have different variants. -/
import Derived.Test.YtcidpgjeddogmaaWN
import Derived.WalkKit
import Derived.WalkSpells
import Derived.WalkLawsBesides
import Derived.Deep.QuietTactic
import Derived.BigQuiet
import Derived.Deep.Draws
import Derived.Deep.AppendLies
import Derived.Laws.OwnMore
import Derived.Laws.BytesArg
import Derived.Lib.Hide
import Derived.Deep.LoopGhost
import Derived.Lib.MinMax
namespace Go.Proofs.Ytcidpgjeddogmaa.Pl
open Go.RowKit
open Go.Proofs.Ytcidpgjeddogmaa.Mw
open Go.Proofs.Ytcidpgjeddogmaa.St
set_option linter.unusedVariables false
set_option linter.unusedSimpArgs false

/-- Whether two seats are neighbours. -/
def nbB (p q : Pc) : Bool :=
  p.m == q.m && ((max p.r q.r - min p.r q.r == 1 && max p.l q.l - min p.l q.l == 0) || (max p.r q.r - min p.r q.r == 0 && max p.l q.l - min p.l q.l == 1))
theorem nb_m {p q : Pc} (h : ¬ p.m = q.m) : nbB p q = false := by unfold nbB; rw [beq_eq_false_iff_ne.2 h]; rfl
theorem nb_e {p q : Pc} (h : p.m = q.m) {x y : Int} (hx : max p.r q.r - min p.r q.r = x) (hy : max p.l q.l - min p.l q.l = y) : nbB p q = ((x == 1 && y == 0) || (x == 0 && y == 1)) := by unfold nbB; rw [beq_iff_eq.2 h, hx, hy]; rfl
theorem mxn {a b : Int} : max a b - min a b = 0 ∨ max a b - min a b = 1 → (max a b - min a b = 0 → a = b) ∧ (max a b - min a b = 1 → a = b + 1 ∨ b = a + 1) := by
  rw [Int.max_def, Int.min_def]
  split <;> omega
theorem nb_var {p q : Pc} {v : Int} (hr : 0 ≤ p.r ∧ p.r ≤ 7) (hl : 0 ≤ p.l ∧ p.l ≤ 7) (hr' : 0 ≤ q.r ∧ q.r ≤ 7) (hl' : 0 ≤ q.l ∧ q.l ≤ 7) (h3 : v = 2 ∨ v = 3 ∨ v = 4) (h : nbB p q = true) : ¬ var p.r p.l v = var q.r q.l v := by
  have h1 : (p.r = q.r ∧ (p.l = q.l + 1 ∨ q.l = p.l + 1)) ∨ (p.l = q.l ∧ (p.r = q.r + 1 ∨ q.r = p.r + 1)) := by
    unfold nbB at h
    rw [Bool.and_eq_true, Bool.or_eq_true, Bool.and_eq_true, Bool.and_eq_true, beq_iff_eq, beq_iff_eq, beq_iff_eq, beq_iff_eq, beq_iff_eq] at h
    rcases h.2 with ⟨h1, h2⟩ | ⟨h1, h2⟩
    · exact .inr ⟨(mxn (.inl h2)).1 h2, (mxn (.inr h1)).2 h1⟩
    · exact .inl ⟨(mxn (.inl h1)).1 h1, (mxn (.inr h2)).2 h2⟩
  have a : ins p.r 0 7 = true := (ins_iff _ _ _).2 hr
  have b : ins p.l 0 7 = true := (ins_iff _ _ _).2 hl
  have c : ins q.r 0 7 = true := (ins_iff _ _ _).2 hr'
  have d : ins q.l 0 7 = true := (ins_iff _ _ _).2 hl'
  clear h
  rcases h3 with rfl | rfl | rfl
  · rw [var_2 rfl a b rfl, var_2 rfl c d rfl]; omega
  · rw [var_3 rfl a b (by omega), var_3 rfl c d (by omega)]; omega
  · rw [var_3 rfl a b (by omega), var_3 rfl c d (by omega)]; omega
theorem rgt_inv {rs : List Rm} {ns : List Nd} {v : Int} {l : List Pc} (h : rgt rs ns v l = true) : chk rs ns v = 0 ∧ ∀ i, i < l.length → riB rs ns v l i = true := by
  unfold rgt at h
  rw [Bool.and_eq_true, Bool.and_eq_true, beq_iff_eq] at h
  refine ⟨h.1, fun i hi => ?_⟩
  have := alln_at h.2.2 i hi
  rw [Bool.and_eq_true] at this
  exact this.1
/-- A right place lies on the board, and its variant is the seat's. -/
theorem rgt_at {rs : List Rm} {ns : List Nd} {v : Int} {l : List Pc} (h : rgt rs ns v l = true) (i : Nat) (hi : i < l.length) : (0 ≤ (ge l i).r ∧ (ge l i).r ≤ 7) ∧ (0 ≤ (ge l i).l ∧ (ge l i).l ≤ 7) ∧ (ge l i).v = var (ge l i).r (ge l i).l v := by
  obtain ⟨hc, hr⟩ := rgt_inv h
  have h1 := hr i hi
  unfold riB at h1
  rw [Bool.and_eq_true, Bool.and_eq_true, Bool.and_eq_true, Bool.and_eq_true, Bool.and_eq_true, ins_iff, ins_iff, ins_iff, beq_iff_eq, beq_iff_eq] at h1
  obtain ⟨-, hm, -, hr1, hl1, hv⟩ := h1
  have hb := (rmB_iff _).1 ((chk_0_inv hc).2.2.2.1 (ge l i).m.toNat (by omega))
  have e : rmI rs (ge l i).m = ge rs (ge l i).m.toNat := rfl
  rw [e] at hr1 hl1
  exact ⟨by omega, by omega, hv⟩
theorem rgt_nb {rs : List Rm} {ns : List Nd} {v : Int} {l : List Pc} (h : rgt rs ns v l = true) (h3 : v = 2 ∨ v = 3 ∨ v = 4) {i k : Nat} (hi : i < l.length) (hk : k < l.length) (hn : nbB (ge l i) (ge l k) = true) : ((ge l i).v == (ge l k).v) = false := by
  obtain ⟨a, b, c⟩ := rgt_at h i hi
  obtain ⟨a', b', c'⟩ := rgt_at h k hk
  rw [beq_eq_false_iff_ne, c, c']
  exact nb_var a b a' b' h3 hn
set_option maxHeartbeats 4000000 in
theorem rnb_any (p q : Pc) (hr : 0 ≤ p.r ∧ p.r ≤ 7) (hl : 0 ≤ p.l ∧ p.l ≤ 7) (hr' : 0 ≤ q.r ∧ q.r ≤ 7) (hl' : 0 ≤ q.l ∧ q.l ≤ 7) (w : World) :
    Calls Try.prog 39 #[.agg (sta p), .agg (sta q)] w fun e w' => e = .returned (.bool (nbB p q)) ∧ Below w.heap.size w w' := by
  have w1 : IntKind.i64.wrap (max p.r q.r - min p.r q.r) = max p.r q.r - min p.r q.r := by
    refine IntWalk.i64_in _ ?_
    rw [Int.max_def, Int.min_def]; split <;> omega
  have w2 : IntKind.i64.wrap (max p.l q.l - min p.l q.l) = max p.l q.l - min p.l q.l := by
    refine IntWalk.i64_in _ ?_
    rw [Int.max_def, Int.min_def]; split <;> omega
  obtain ⟨x, hx⟩ : ∃ x, max p.r q.r - min p.r q.r = x := ⟨_, rfl⟩
  obtain ⟨y, hy⟩ : ∃ y, max p.l q.l - min p.l q.l = y := ⟨_, rfl⟩
  replace w1 := w1.trans hx
  replace w2 := w2.trans hy
  have HX := Lib.hid hx
  have HY := Lib.hid hy
  clear hx hy
  have hb : Below w.heap.size w ((w.alloc (.cells (sta p) 50)).alloc (.cells (sta q) 50)) := by (repeat (first | with_reducible exact Below.refl _ _ | with_reducible refine bl_drewN ?_ _ | with_reducible refine Below.drew ?_ | with_reducible refine bl_alloc ?_ _ | with_reducible refine Below.alloc ?_ (by first | omega | (simp; done) | (simp; omega)) _ | with_reducible refine Below.setCell ?_ (by first | omega | (simp; done) | (simp; omega)) _ | with_reducible assumption))
  have hP : Bk ((w.alloc (.cells (sta p) 50)).alloc (.cells (sta q) 50)) w.heap.size 50 (sta p) := (Bk.new _ _ _).alloc _
  have hQ : Bk ((w.alloc (.cells (sta p) 50)).alloc (.cells (sta q) 50)) (w.heap.size + 1) 50 (sta q) := Bk.new' (by simp)
  clear hr hl hr' hl'
  go_enter Try.func39, Try.ntmps39
  go_upto_region 1 with fail
  generalize ((w.alloc (.cells (sta p) 50)).alloc (.cells (sta q) 50)) = W at hb hP hQ ⊢
  generalize w.heap.size + 1 = gq at hQ ⊢
  generalize hgp : w.heap.size = gp at hP ⊢
  have p0 : W.cell? ⟨gp, 0, none⟩ = some (.int .i64 p.m) := hP.cell 0
  have p1 : W.cell? ⟨gp, 1, none⟩ = some (.int .i64 p.r) := hP.cell 1
  have p2 : W.cell? ⟨gp, 2, none⟩ = some (.int .i64 p.l) := hP.cell 2
  have q0 : W.cell? ⟨gq, 0, none⟩ = some (.int .i64 q.m) := hQ.cell 0
  have q1 : W.cell? ⟨gq, 1, none⟩ = some (.int .i64 q.r) := hQ.cell 1
  have q2 : W.cell? ⟨gq, 2, none⟩ = some (.int .i64 q.l) := hQ.cell 2
  have j0 := hP.lt
  have j1 := hQ.lt
  clear hP hQ hgp
  by_cases hm : p.m = q.m
  · have t1 : (p.m != q.m) = false := by rw [hm]; simp
    have H := Lib.hid (nb_e (p := p) (q := q) hm HX.out HY.out)
    clear hm
    go_wp2_with fail
    refine Mm.region_ext (by kernel_rfl) (by kernel_rfl) ?_; (repeat (first | go_big_quiet_step (fail) | quiet_step (fail))); refine wpQuiet_nil ?_
    intro w3 hb3
    have hbc := bl_trans hb hb3
    clear w1 w2 HX HY p0 p1 p2 q0 q1 q2 j0 j1 t1 hb hb3
    by_cases hx : x = 1
    · subst hx
      by_cases hy : y = 0
      · subst hy
        go_wp2_with fail
        go_ret
        exact ⟨by rw [H.out]; rfl, hbc⟩
      · have t2 : (y == 0) = false := beq_eq_false_iff_ne.2 hy
        go_wp2_with fail
        go_ret
        exact ⟨by rw [H.out, t2]; rfl, hbc⟩
    · have t2 : (x == 1) = false := beq_eq_false_iff_ne.2 hx
      by_cases hx0 : x = 0
      · subst hx0
        by_cases hy : y = 1
        · subst hy
          go_wp2_with fail
          go_ret
          exact ⟨by rw [H.out]; rfl, hbc⟩
        · have t4 : (y == 1) = false := beq_eq_false_iff_ne.2 hy
          go_wp2_with fail
          go_ret
          exact ⟨by rw [H.out, t4]; rfl, hbc⟩
      · have t4 : (x == 0) = false := beq_eq_false_iff_ne.2 hx0
        go_wp2_with fail
        go_ret
        exact ⟨by rw [H.out, t2, t4]; rfl, hbc⟩
  · have t1 : (p.m != q.m) = true := by rw [bne_iff_ne]; exact hm
    have H := Lib.hid (nb_m hm)
    clear hm
    go_wp2_with fail
    go_ret
    exact ⟨by rw [H.out]; rfl, by (repeat (first | with_reducible exact Below.refl _ _ | with_reducible refine bl_drewN ?_ _ | with_reducible refine Below.drew ?_ | with_reducible refine bl_alloc ?_ _ | with_reducible refine Below.alloc ?_ (by first | omega | (simp; done) | (simp; omega)) _ | with_reducible refine Below.setCell ?_ (by first | omega | (simp; done) | (simp; omega)) _ | with_reducible assumption))⟩
end Go.Proofs.Ytcidpgjeddogmaa.Pl
