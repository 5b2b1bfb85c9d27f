/- Words for memory: two rows of the call's own that lie apart. No program in sight. -/
import Derived.Test.YtpgkiiaoddhdcaaMW
import Derived.OwnWalk
namespace Go.Proofs.Ytpgkiiaoddhdcaa.Mw
open Go.RowKit
set_option linter.unusedVariables false

/-- Two rows of the call's own, apart; what lies below B is as it was. -/
def Two (w0 W : World) (B : Nat) (e : TypeId) (vx vy : Value) (n m : Nat) (xs ys : List Value) : Prop :=
  W.ownsRow B e 1 vx n xs ∧ W.ownsRow B e 1 vy m ys ∧ (∀ g, vx.ownBlock = some g → vy.ownBlock ≠ some g) ∧ B ≤ W.heap.size ∧ Below B w0 W
section
variable {w0 W W' : World} {B : Nat} {e : TypeId} {vx vy : Value} {n m : Nat} {xs ys : List Value}
theorem Two.drew (h : Two w0 W B e vx vy n m xs ys) : Two w0 W.drew B e vx vy n m xs ys := ⟨h.1, h.2.1, h.2.2.1, h.2.2.2.1, h.2.2.2.2.drew⟩
theorem Two.alloc (h : Two w0 W B e vx vy n m xs ys) (o : Obj) : Two w0 (W.alloc o) B e vx vy n m xs ys := ⟨h.1.alloc o, h.2.1.alloc o, h.2.2.1, by have := h.2.2.2.1; simp; omega, h.2.2.2.2.alloc h.2.2.2.1 o⟩
theorem Two.swap (h : Two w0 W B e vx vy n m xs ys) : Two w0 W B e vy vx m n ys xs := ⟨h.2.1, h.1, fun g h1 h2 => h.2.2.1 g h2 h1, h.2.2.2⟩
theorem Two.left {g cap k : Nat} {zs : List Value} {H : Nat} (h : Two w0 W B e vx vy n m xs ys) (ho : W'.ownsRow B e 1 (.slice (some ⟨g, 0, none⟩) k cap) k zs) (hg : W.grownBy W' vx.ownBlock) (hH : W.heap.size = H) (ha : vx.ownBlock = some g ∨ g = H) : Two w0 W' B e (.slice (some ⟨g, 0, none⟩) k cap) vy k m zs ys := by
  obtain ⟨h1, h2, h3, h4, h5⟩ := h
  refine ⟨ho, h2.kept hg ?_, ?_, Nat.le_trans h4 hg.size, h5.grown hg h4 (fun j hj => (h1.lt j hj).1)⟩
  · cases hv : vy.ownBlock with
    | none => exact .inl rfl
    | some j => exact .inr (fun e => h3 j e.symm hv)
  · intro g' hg' hy
    have : g = g' := by simpa [Value.ownBlock] using hg'
    subst this
    rcases ha with ha | ha
    · exact h3 g ha hy
    · have := (h2.lt g hy).2; omega
theorem Two.right {g cap k : Nat} {zs : List Value} {H : Nat} (h : Two w0 W B e vx vy n m xs ys) (ho : W'.ownsRow B e 1 (.slice (some ⟨g, 0, none⟩) k cap) k zs) (hg : W.grownBy W' vy.ownBlock) (hH : W.heap.size = H) (ha : vy.ownBlock = some g ∨ g = H) : Two w0 W' B e vx (.slice (some ⟨g, 0, none⟩) k cap) n k xs zs :=
  (h.swap.left ho hg hH ha).swap
theorem Two.cell (h : Two w0 W B e vx vy n m xs ys) {p : Addr} (hp : p.block < B) {v : Value} (hc : w0.cell? p = some v) : W.cell? p = some v := (h.2.2.2.2.cell (p := p) hp).trans hc
theorem Two.bk (h : Two w0 W B e vx vy n m xs ys) {g : Nat} {t : TypeId} {cs : Array Value} (hg : g < B) (hc : Bk w0 g t cs) : Bk W g t cs := hc.below h.2.2.2.2 hg
theorem Two.own1 (h : Two w0 W B e vx vy n m xs ys) : W.ownsRow B e 1 vx n xs := h.1
theorem Two.own2 (h : Two w0 W B e vx vy n m xs ys) : W.ownsRow B e 1 vy m ys := h.2.1
theorem Two.size (h : Two w0 W B e vx vy n m xs ys) : B ≤ W.heap.size := h.2.2.2.1
theorem Two.start (w : World) (e : TypeId) : Two w w w.heap.size e (.slice none 0 0) (.slice none 0 0) 0 0 [] [] :=
  ⟨World.ownsRow_nil _ _ _ _, World.ownsRow_nil _ _ _ _, fun g h => by simp [Value.ownBlock] at h, Nat.le_refl _, Below.refl _ _⟩
theorem Two.newStart (h : Two w0 W B e vx vy n m xs ys) : Two W W W.heap.size e (.slice none 0 0) (.slice none 0 0) 0 0 [] [] := Two.start _ _
end
theorem one_bk {W : World} {g : Nat} {t : TypeId} {v : Value} (h : Bk W g t #[v]) : ∀ j u, [v][j]? = some u → W.cell? ((⟨g, 0, none⟩ : Addr).add j) = some u := World.news_of_block h
end Go.Proofs.Ytpgkiiaoddhdcaa.Mw
