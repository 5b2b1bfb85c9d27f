/- The memory of Place: rooms that are visited, members, rooms of candidates. No walk. -/
import Derived.Test.YtcidpgjeddogmaaVC
import Derived.Test.YtcidpgjeddogmaaVR
import Derived.Test.YtcidpgjeddogmaaAR
import Derived.Test.YtcidpgjeddogmaaMem
import Derived.WalkKit
import Derived.WalkSpells
import Derived.WalkLawsBesides
import Derived.Deep.QuietTactic
import Derived.BigQuiet
import Derived.Deep.Draws
import Derived.Deep.AppendLies
import Derived.Laws.OwnMore
import Derived.Laws.BytesArg
import Derived.Lib.Hide
import Derived.Deep.LoopGhost
namespace Go.Proofs.Ytcidpgjeddogmaa.Pl
open Go.RowKit
open Go.Proofs.Ytcidpgjeddogmaa.Mw
open Go.Proofs.Ytcidpgjeddogmaa.St
set_option linter.unusedVariables false
set_option linter.unusedSimpArgs false

theorem infoInt : (Try.prog.info? 3).map (fun i => (i.zero, i.size, i.bytes)) = some (some (.int .i64 0), 1, 8) := by kernel_rfl
theorem infoSl : (Try.prog.info? 22).map (fun i => (i.zero, i.size, i.bytes)) = some (some (.slice none 0 0), 1, 24) := by kernel_rfl
theorem infoBool : (Try.prog.info? 4).map (fun i => (i.zero, i.size, i.bytes)) = some (some (.bool false), 1, 1) := by kernel_rfl
theorem capR_bd {rs : List Rm} {k : Nat} (h : rmB (ge rs k) = true) : 1 ≤ (ge rs k).r * (ge rs k).c ∧ (ge rs k).r * (ge rs k).c ≤ 64 ∧ ((capR rs k : Nat) : Int) = (ge rs k).r * (ge rs k).c := by
  obtain ⟨h1, h2, -⟩ := (rmB_iff _).1 h
  have a : 1 * 1 ≤ (ge rs k).r * (ge rs k).c := Int.mul_le_mul h1.1 h2.1 (by omega) (by omega)
  have b : (ge rs k).r * (ge rs k).c ≤ 8 * 8 := Int.mul_le_mul h1.2 h2.2 (by omega) (by omega)
  refine ⟨by omega, by omega, ?_⟩
  unfold capR; omega
/-- n cells, given by a function. -/
def rng (n : Nat) (f : Nat → Value) : Array Value := ((List.range n).map f).toArray
theorem rng_size (n : Nat) (f : Nat → Value) : (rng n f).size = n := by unfold rng; simp
theorem rng_at {n : Nat} {f : Nat → Value} {i : Nat} (h : i < n) : (rng n f)[i]? = some (f i) := by
  unfold rng; rw [List.getElem?_toArray, List.getElem?_map, List.getElem?_range h]; rfl
theorem rng_set {n : Nat} {f : Nat → Value} (i : Nat) (v : Value) : (rng n f).setIfInBounds i v = rng n fun x => if x = i then v else f x := by
  apply Array.ext
  · rw [Array.size_setIfInBounds, rng_size, rng_size]
  · intro j h1 h2
    have hj : j < n := by rw [rng_size] at h2; exact h2
    have e2 := rng_at (f := fun x => if x = i then v else f x) hj
    rw [Array.getElem?_eq_getElem h2] at e2
    rw [Array.getElem_setIfInBounds (by rw [Array.size_setIfInBounds] at h1; exact h1), Option.some.inj e2]
    by_cases e : i = j
    · rw [if_pos e, if_pos e.symm]
    · rw [if_neg e, if_neg fun x => e x.symm]
      have e3 := rng_at (f := f) hj
      rw [Array.getElem?_eq_getElem (by rw [rng_size]; exact hj)] at e3
      exact Option.some.inj e3
theorem rng_congr {n : Nat} {f g : Nat → Value} (h : ∀ i, i < n → f i = g i) : rng n f = rng n g := by
  unfold rng; rw [List.map_congr_left fun i hi => h i (List.mem_range.1 hi)]
def nat64 (x : Nat) : Value := .int .i64 (x : Int)
/-- One number of a row of the call's own has turned. -/
theorem own_set {w : World} {base : Nat} {e : TypeId} {g n c : Nat} {l : List Nat} (h : w.ownsRow base e 1 (.slice (some ⟨g, 0, none⟩) n c) n (l.map nat64)) (k x : Nat) : (w.setCell ⟨g, k, none⟩ (nat64 x)).ownsRow base e 1 (.slice (some ⟨g, 0, none⟩) n c) n ((l.set k x).map nat64) := by
  have h1 := h.1
  rcases h.2 with ⟨h2, _⟩ | ⟨g', cap, cur, h2, hg, hh, hc, hm, hs, ht⟩
  · cases h2
  · cases h2
    refine ⟨by simpa using h1, .inr ⟨g, c, cur.setIfInBounds k (nat64 x), rfl, hg, ?_, hc, hm, by simpa using hs, ?_⟩⟩
    · simp [World.setCell, Array.getElem?_modify, hh]
    · rw [Array.toList_setIfInBounds, List.take_set, ht, List.map_set]
/-- The blocks of a call of Place. -/
structure Bx where
  gA : Nat
  gN : Nat
  gR : Nat
  gM : Nat
  gV : Nat
  gF : Nat
  v : Nat
  m : Nat
  q : Nat
/-- The names that augment has caught. -/
def Bx.ptrs (K : Bx) : Array Value := #[.pointer (some ⟨K.gA, 0, none⟩), .pointer (some ⟨K.gV, 0, none⟩), .pointer (some ⟨K.gN, 0, none⟩), .pointer (some ⟨K.gM, 0, none⟩), .pointer (some ⟨K.gR, 0, none⟩), .pointer (some ⟨K.gF, 0, none⟩)]
def Bx.all (K : Bx) : List Nat := [K.gA, K.gN, K.gR, K.gM, K.gV, K.gF, K.v, K.m, K.q]
/-- What stands where. -/
structure InvH (R N : Nat) (sA sB : Value) (cq : Nat) (w0 : World) (K : Bx) (hd : Nat → Value) (w : World) (S : Sx) : Prop where
  bA : Bk w K.gA 25 #[sA]
  bN : Bk w K.gN 27 #[sB]
  bR : Bk w K.gR 22 #[.slice (some ⟨K.q, 0, none⟩) N cq]
  bM : Bk w K.gM 73 #[.slice (some ⟨K.m, 0, none⟩) R R]
  bV : Bk w K.gV 74 #[.slice (some ⟨K.v, 0, none⟩) R R]
  bF : Bk w K.gF 58 #[.func (.func 51) #[] K.ptrs]
  rV : Bk w K.v 4 (rng R fun r => .bool (S.vis r))
  rM : Bk w K.m 22 (rng R hd)
  rQ : Bk w K.q 3 (rng N fun j => .int .i64 (S.rm j))
  own : ∀ r, r < R → w.ownsRow w0.heap.size 3 1 (hd r) (S.mem r).length ((S.mem r).map nat64)
  apart : ∀ r, r < R → ∀ b, (hd r).ownBlock = some b → b ∉ K.all
  dis : ∀ r, r < R → ∀ p, p < R → r ≠ p → ∀ b, (hd r).ownBlock = some b → (hd p).ownBlock ≠ some b
  one : K.gR ≠ K.m
  low : ∀ b, b ∈ K.all → w0.heap.size ≤ b
  bel : Below w0.heap.size w0 w
section
variable {R N : Nat} {sA sB : Value} {cq : Nat} {w0 : World} {K : Bx} {hd : Nat → Value} {w w' : World} {S T : Sx}
theorem InvH.old (h : InvH R N sA sB cq w0 K hd w S) (hb : Below w.heap.size w w') : InvH R N sA sB cq w0 K hd w' S :=
  { h with bA := h.bA.old hb, bN := h.bN.old hb, bR := h.bR.old hb, bM := h.bM.old hb, bV := h.bV.old hb, bF := h.bF.old hb, rV := h.rV.old hb, rM := h.rM.old hb, rQ := h.rQ.old hb, own := fun r hr => own_old (h.own r hr) hb, bel := bl_trans h.bel hb }
theorem bcells {w : World} {g : Nat} {t : TypeId} {v : Value} (h : Bk w g t #[v]) : w.cell? ⟨g, 0, none⟩ = some v := h.cell 0
/-- A room is visited. -/
theorem InvH.see (h : InvH R N sA sB cq w0 K hd w S) (r : Nat) : InvH R N sA sB cq w0 K hd (w.setCell ⟨K.v, r, none⟩ (.bool true)) (S.see r) := by
  refine { h with bA := h.bA.far ?_ _, bN := h.bN.far ?_ _, bR := h.bR.far ?_ _, bM := h.bM.far ?_ _, bV := h.bV.far ?_ _, bF := h.bF.far ?_ _, rV := ?_, rM := h.rM.far ?_ _, rQ := h.rQ.far ?_ _, own := fun p hp => ?_, bel := h.bel.setCell (h.low _ (by simp [Bx.all])) _ }
  · exact h.bA.ne h.rV (by decide)
  · exact h.bN.ne h.rV (by decide)
  · exact h.bR.ne h.rV (by decide)
  · exact h.bM.ne h.rV (by decide)
  · exact h.bV.ne h.rV (by decide)
  · exact h.bF.ne h.rV (by decide)
  · have := h.rV.set r (.bool true)
    rw [rng_set] at this
    have e : (rng R fun x => .bool ((S.see r).vis x)) = rng R fun x => if x = r then .bool true else .bool (S.vis x) := rng_congr fun i _ => by
      show Value.bool (if i = r then true else S.vis i) = _
      split <;> rfl
    rw [e]; exact this
  · exact h.rM.ne h.rV (by decide)
  · exact h.rQ.ne h.rV (by decide)
  · refine (h.own p hp).kept (row := some K.v) (gb_set (gb_refl w _) (.inl rfl) _) (.inr fun e => h.apart p hp K.v e (by simp [Bx.all]))
theorem InvH.gr (h : InvH R N sA sB cq w0 K hd w S) {r : Nat} (hr : r < R) {b : Nat} (hb : b ∈ K.all) : some b ≠ (hd r).ownBlock := fun e => h.apart r hr b e.symm hb
/-- The members of a room have grown. -/
theorem InvH.appm (h : InvH R N sA sB cq w0 K hd w S) {r i g cap : Nat} (hr : r < R) {w1 : World} (hown : w1.ownsRow w0.heap.size 3 1 (.slice (some ⟨g, 0, none⟩) ((S.mem r).length + 1) cap) ((S.mem r).length + 1) ((S.mem r).map nat64 ++ [nat64 i])) (hg : w.grownBy w1 (hd r).ownBlock) (hgg : (hd r).ownBlock = some g ∨ g = w.heap.size) :
    InvH R N sA sB cq w0 K (fun x => if x = r then .slice (some ⟨g, 0, none⟩) ((S.mem r).length + 1) cap else hd x) (w1.setCell ⟨K.m, r, none⟩ (.slice (some ⟨g, 0, none⟩) ((S.mem r).length + 1) cap)) { S with mem := fun x => if x = r then S.mem r ++ [i] else S.mem x } := by
  have hall : ∀ b, b ∈ K.all → b < w.heap.size := fun b hb => by
    simp only [Bx.all, List.mem_cons, List.not_mem_nil, or_false] at hb
    rcases hb with rfl | rfl | rfl | rfl | rfl | rfl | rfl | rfl | rfl
    · exact h.bA.lt
    · exact h.bN.lt
    · exact h.bR.lt
    · exact h.bM.lt
    · exact h.bV.lt
    · exact h.bF.lt
    · exact h.rV.lt
    · exact h.rM.lt
    · exact h.rQ.lt
  have hgK : ∀ b, b ∈ K.all → b ≠ g := fun b hb e => by
    subst e
    rcases hgg with e | e
    · exact h.apart r hr _ e hb
    · have := hall _ hb; omega
  have hnm : K.m ≠ g := hgK _ (by simp [Bx.all])
  have hgr : w1.grownBy (w1.setCell ⟨K.m, r, none⟩ (.slice (some ⟨g, 0, none⟩) ((S.mem r).length + 1) cap)) (some K.m) := gb_set (gb_refl w1 _) (.inl rfl) _
  have hbel : Below w0.heap.size w0 w1 := h.bel.grown hg h.bel.size fun k hk => by
    have := (h.own r hr).lt k hk
    omega
  refine { h with bA := (h.bA.grown hg ?_).far ?_ _, bN := (h.bN.grown hg ?_).far ?_ _, bR := (h.bR.grown hg ?_).far ?_ _, bM := (h.bM.grown hg ?_).far ?_ _, bV := (h.bV.grown hg ?_).far ?_ _, bF := (h.bF.grown hg ?_).far ?_ _, rV := (h.rV.grown hg ?_).far ?_ _, rM := ?_, rQ := (h.rQ.grown hg ?_).far ?_ _, own := fun p hp => ?_, apart := fun p hp b hb => ?_, dis := fun p hp p' hp' hne b hb => ?_, bel := hbel.setCell (h.low _ (by simp [Bx.all])) _ }
  · exact h.gr hr (by simp [Bx.all])
  · exact h.bA.ne h.rM (by decide)
  · exact h.gr hr (by simp [Bx.all])
  · exact h.bN.ne h.rM (by decide)
  · exact h.gr hr (by simp [Bx.all])
  · exact h.one
  · exact h.gr hr (by simp [Bx.all])
  · exact h.bM.ne h.rM (by decide)
  · exact h.gr hr (by simp [Bx.all])
  · exact h.bV.ne h.rM (by decide)
  · exact h.gr hr (by simp [Bx.all])
  · exact h.bF.ne h.rM (by decide)
  · exact h.gr hr (by simp [Bx.all])
  · exact h.rV.ne h.rM (by decide)
  · have := (h.rM.grown hg (h.gr hr (by simp [Bx.all]))).set r (.slice (some ⟨g, 0, none⟩) ((S.mem r).length + 1) cap)
    rw [rng_set] at this
    exact this
  · exact h.gr hr (by simp [Bx.all])
  · exact h.rQ.ne h.rM (by decide)
  · show World.ownsRow _ _ _ _ (if p = r then _ else hd p) (if p = r then S.mem r ++ [i] else S.mem p).length ((if p = r then S.mem r ++ [i] else S.mem p).map nat64)
    by_cases e : p = r
    · subst e
      rw [if_pos rfl, if_pos rfl, List.length_append, List.map_append]
      exact hown.kept (row := some K.m) hgr (.inr fun e => hnm (by simpa [Value.ownBlock] using e.symm))
    · rw [if_neg e, if_neg e]
      refine ((h.own p hp).kept hg ?_).kept (row := some K.m) hgr (.inr fun e => h.apart p hp K.m e (by simp [Bx.all]))
      rcases hv : (hd p).ownBlock with _ | b
      · exact .inl rfl
      · exact .inr fun e2 => h.dis p hp r hr e b hv e2.symm
  · have hb : (if p = r then Value.slice (some ⟨g, 0, none⟩) ((S.mem r).length + 1) cap else hd p).ownBlock = some b := hb
    by_cases e : p = r
    · rw [if_pos e] at hb
      obtain rfl : g = b := by simpa [Value.ownBlock] using hb
      exact fun hx => hgK _ hx rfl
    · rw [if_neg e] at hb
      exact h.apart p hp b hb
  · have hb : (if p = r then Value.slice (some ⟨g, 0, none⟩) ((S.mem r).length + 1) cap else hd p).ownBlock = some b := hb
    show (if p' = r then Value.slice (some ⟨g, 0, none⟩) ((S.mem r).length + 1) cap else hd p').ownBlock ≠ some b
    have hlt : ∀ x, x < R → ∀ y, (hd x).ownBlock = some y → y < w.heap.size := fun x hx y hy => ((h.own x hx).lt y hy).2
    by_cases e : p = r
    · rw [if_pos e] at hb
      obtain rfl : g = b := by simpa [Value.ownBlock] using hb
      rw [if_neg (by omega)]
      intro e2
      rcases hgg with e3 | e3
      · exact h.dis r hr p' hp' (by omega) g e3 e2
      · have := hlt p' hp' g e2; omega
    · rw [if_neg e] at hb
      by_cases e' : p' = r
      · rw [if_pos e']
        intro e2
        obtain rfl : g = b := by simpa [Value.ownBlock] using e2
        rcases hgg with e3 | e3
        · exact h.dis r hr p hp (by omega) g e3 hb
        · have := hlt p hp g hb; omega
      · rw [if_neg e']; exact h.dis p hp p' hp' hne b hb
/-- A member of a room has turned. -/
theorem InvH.subm (h : InvH R N sA sB cq w0 K hd w S) {r k i g n c : Nat} (hr : r < R) (hv : hd r = .slice (some ⟨g, 0, none⟩) n c) :
    InvH R N sA sB cq w0 K hd (w.setCell ⟨g, k, none⟩ (nat64 i)) { S with mem := fun x => if x = r then (S.mem r).set k i else S.mem x } := by
  have hob : (hd r).ownBlock = some g := by rw [hv]; rfl
  have hgK : ∀ b, b ∈ K.all → b ≠ g := fun b hb e => h.apart r hr b (by rw [hob, e]) hb
  have hlen : n = (S.mem r).length := by
    rcases (h.own r hr).2 with ⟨e, _⟩ | ⟨g', cap, cur, e, _⟩
    · rw [hv] at e; cases e
    · rw [hv] at e; cases e; rfl
  refine { h with bA := h.bA.far ?_ _, bN := h.bN.far ?_ _, bR := h.bR.far ?_ _, bM := h.bM.far ?_ _, bV := h.bV.far ?_ _, bF := h.bF.far ?_ _, rV := h.rV.far ?_ _, rM := h.rM.far ?_ _, rQ := h.rQ.far ?_ _, own := fun p hp => ?_, bel := h.bel.setCell ((h.own r hr).lt g hob).1 _ }
  all_goals first | exact hgK _ (by simp [Bx.all]) | skip
  show World.ownsRow _ _ _ _ (hd p) (if p = r then (S.mem r).set k i else S.mem p).length ((if p = r then (S.mem r).set k i else S.mem p).map nat64)
  by_cases e : p = r
  · subst e
    rw [if_pos rfl, List.length_set]
    have := h.own p hr
    rw [hv] at this ⊢
    subst hlen
    exact own_set this k i
  · rw [if_neg e]
    exact (h.own p hp).kept (row := some g) (gb_set (gb_refl w _) (.inl rfl) _) (.inr fun e2 => h.dis p hp r hr e g e2 hob)
/-- A candidate's room has turned. -/
theorem InvH.putq (h : InvH R N sA sB cq w0 K hd w S) (i : Nat) (x : Int) :
    InvH R N sA sB cq w0 K hd (w.setCell ⟨K.q, i, none⟩ (.int .i64 x)) { S with rm := fun y => if y = i then x else S.rm y } := by
  refine { h with bA := h.bA.far ?_ _, bN := h.bN.far ?_ _, bR := h.bR.far ?_ _, bM := h.bM.far ?_ _, bV := h.bV.far ?_ _, bF := h.bF.far ?_ _, rV := h.rV.far ?_ _, rM := h.rM.far ?_ _, rQ := ?_, own := fun p hp => ?_, bel := h.bel.setCell (h.low _ (by simp [Bx.all])) _ }
  · exact h.bA.ne h.rQ (by decide)
  · exact h.bN.ne h.rQ (by decide)
  · exact h.bR.ne h.rQ (by decide)
  · exact h.bM.ne h.rQ (by decide)
  · exact h.bV.ne h.rQ (by decide)
  · exact h.bF.ne h.rQ (by decide)
  · exact h.rV.ne h.rQ (by decide)
  · exact h.rM.ne h.rQ (by decide)
  · have := h.rQ.set i (.int .i64 x)
    rw [rng_set] at this
    have e : (rng N fun j => .int .i64 (if j = i then x else S.rm j)) = rng N fun j => if j = i then .int .i64 x else .int .i64 (S.rm j) := rng_congr fun j _ => by split <;> rfl
    show Bk _ _ _ (rng N fun j => .int .i64 (if j = i then x else S.rm j))
    rw [e]; exact this
  · exact (h.own p hp).kept (row := some K.q) (gb_set (gb_refl w _) (.inl rfl) _) (.inr fun e => h.apart p hp K.q e (by simp [Bx.all]))
end
def Inv (R N : Nat) (sA sB : Value) (cq : Nat) (w0 : World) (K : Bx) (w : World) (S : Sx) : Prop := ∃ hd, InvH R N sA sB cq w0 K hd w S
end Go.Proofs.Ytcidpgjeddogmaa.Pl
