/- Walk: the tape's Scheme. -/
import Derived.Test.YtokddjohdodkmaaHL
import Derived.Deep.DeepCutAuto
import Derived.Deep.RegionLaw
import Derived.Deep.AppendLies
import Derived.WalkKit
import Derived.WalkSpells
import Derived.WalkLawsBesides
import Derived.Deep.QuietTactic
import Derived.BigQuiet
import Derived.Deep.Draws
import Derived.Deep.AppendLies
import Derived.Laws.OwnMore
import Derived.Laws.BytesArg
import Derived.Lib.Hide
import Derived.Deep.LoopGhost
import Derived.Deep.CutBlock
namespace Go.Proofs.Ytokddjohdodkmaa.Tm
open Go.RowKit Go.Proofs.Ytokddjohdodkmaa.Mw
set_option linter.unusedVariables false
set_option linter.unusedSimpArgs false

section
variable {P : Program} {ops : Array Oper} {Q : Exit → Act → World → Prop} {md : Region.Mode} {S : World → Prop}
/-- One of two may come up, and S is shown behind it. -/
theorem wpAnyM_two {T : List Nat} {i j : Nat} {o o' : Oper} {fuel : Nat} {listed : Array Bool} {a : Act} {w : World} (hr : Region.ready md ops listed = [i, j]) (ho : ops[i]? = some o) (ho' : ops[j]? = some o')
    (h : ∀ K' : Act → World → Prop, Shut (∀ a w, S w → (S w → Am.wpAnyM P md ops Q S T fuel (listed.setIfInBounds i true) a w) → K' a w) → if Region.wanted o (yielded ops a.tmps) = true then Oper.wp P o a w K' Q else K' (a.put o.dst undef) w)
    (h' : ∀ K' : Act → World → Prop, Shut (∀ a w, S w → (S w → Am.wpAnyM P md ops Q S T fuel (listed.setIfInBounds j true) a w) → K' a w) → if Region.wanted o' (yielded ops a.tmps) = true then Oper.wp P o' a w K' Q else K' (a.put o'.dst undef) w) : Am.wpAnyM P md ops Q S T (fuel + 1) listed a w :=
  ⟨fun h0 => (by rw [hr] at h0; cases h0), fun q hq => (by
    rw [hr] at hq
    simp at hq
    rcases hq with rfl | rfl
    · exact wpOp_step ho (fun K' hK => h K' (fun a w hS hW => hK a w ⟨fun _ => hS, hW hS⟩))
    · exact wpOp_step ho' (fun K' hK => h' K' (fun a w hS hW => hK a w ⟨fun _ => hS, hW hS⟩)))⟩
end
/-- Strictly ascending numbers below q. -/
def KS (l : List Int) (q : Nat) : Prop := l.length ≤ q ∧ ∀ i, i < l.length → 0 ≤ gi l i ∧ gi l i < q ∧ (i = 0 ∨ gi l (i - 1) < gi l i)
theorem ks_nil : KS [] 0 := ⟨by simp, fun i hi => absurd hi (by simp)⟩
theorem ks_step {l : List Int} {q : Nat} (h : KS l q) : KS l (q + 1) := ⟨by have := h.1; omega, fun i hi => by have := h.2 i hi; exact ⟨this.1, by omega, this.2.2⟩⟩
theorem ks_snoc {l : List Int} {q : Nat} (h : KS l q) : KS (l ++ [(q : Int)]) (q + 1) := by
  refine ⟨by have := h.1; simp; omega, fun i hi => ?_⟩
  by_cases hlt : i < l.length
  · rw [gi_left l _ i hlt]
    have h1 := h.2 i hlt
    refine ⟨h1.1, by omega, h1.2.2.imp id fun h2 => ?_⟩
    rw [gi_left l _ (i - 1) (by omega)]; exact h2
  · have : i = l.length := by simp at hi; omega
    subst this
    rw [gi_snoc]
    refine ⟨by omega, by omega, ?_⟩
    by_cases h0 : l.length = 0
    · exact .inl h0
    · rw [gi_left l _ (l.length - 1) (by omega)]
      have := h.2 (l.length - 1) (by omega)
      exact .inr this.2.1
theorem ks_ok {l : List Int} {q : Nat} {n : Int} (h : KS l q) (hq : (q : Int) ≤ n) : kOk n l = true := allI_true fun i hi => by
  have := h.2 i hi
  exact decide_eq_true ⟨this.1, by omega, this.2.2⟩
/-- The keys and the withdrawals of the first parts are right. -/
def SG (l : List Pt) (ks : List Ky) (wd : List Int) : Prop := ∀ i, i < ks.length → (kOk (gp l i).n (gk ks i).l = true ∧ (gk ks i).l.length ≤ 7) ∧ knd (gi wd i) = true
theorem sg_snoc {l : List Pt} {ks : List Ky} {wd : List Int} {k : Ky} {m : Int} {j : Nat} (h : SG l ks wd) (hw : wd.length = j) (hks : ks.length = j) (hk : kOk (gp l j).n k.l = true ∧ k.l.length ≤ 7) (hm : knd m = true) : SG l (ks ++ [k]) (wd ++ [m]) := fun i hi => by
  by_cases hlt : i < ks.length
  · rw [gk_left ks [k] i hlt, gi_left wd [m] i (by omega)]; exact h i hlt
  · have : i = ks.length := by simp at hi; omega
    subst this
    rw [gk_snoc, show ks.length = wd.length by omega, gi_snoc, show wd.length = j by omega]
    exact ⟨hk, hm⟩
theorem knd_pick {m : Int} (h : m ∈ ([0, 0, 0, 0, 1, 2] : List Int)) : knd m = true := by
  simp at h
  exact decide_eq_true (by omega)
theorem kOk_nil (n : Int) : kOk n [] = true := allI_true fun i hi => absurd hi (by simp)
/-- A scheme in memory, made by the tape. -/
structure SF (w : World) (g tp : Nat) (W : World) (s : Sc) : Prop where
  bk : Bk W g 31 #[.slice s.K s.ks.length s.ck, .slice s.W s.wd.length s.cw]
  r1 : Bk W (w.heap.size + 1) 31 #[.slice none 0 0, .slice none 0 0]
  ok : ScOk W s
  nK : ∀ a, s.K = some a → g < a.block
  nW : ∀ a, s.W = some a → g < a.block
  nk : ∀ i, i < s.ks.length → ∀ a, (gk s.ks i).A = some a → g < a.block
  ta : Tp W tp
  be : w.grownBy W (some tp)
  lt : tp < w.heap.size
  lg : g = w.heap.size + 1 + 1
/-- The scheme is valid for the parts; it lies apart. -/
def SV (p : Pa) (s : Sc) : Prop := s.ks.length = p.l.length ∧ s.wd.length = p.l.length ∧ ∀ i, i < p.l.length → svAt p s i = true
def SW (w : World) (s : Sc) : Prop := (∀ a, s.W = some a → ∀ o, w.frozen? ⟨a.block, o, none⟩ = false) ∧ ∀ a, s.W = some a → Away a.block s.K ∧ ∀ i, i < s.ks.length → Away a.block (gk s.ks i).A
def ScNew (w : World) (s : Sc) : Prop := (∀ a, s.K = some a → w.heap.size < a.block) ∧ (∀ a, s.W = some a → w.heap.size < a.block) ∧ ∀ i, i < s.ks.length → ∀ a, (gk s.ks i).A = some a → w.heap.size < a.block
/-- The ending is a scheme; without mistakes it is valid; the tape alone has turned. -/
def TSc (tp : Nat) (p : Pa) (n : Int) (w : World) (e : Ending) (w' : World) : Prop := ∃ s : Sc, ScOk w' s ∧ ScNew w s ∧ (n ≤ 0 → SV p s ∧ SW w' s) ∧ e = .returned (scv s) ∧ Tp w' tp ∧ w.grownBy w' (some tp)
theorem SJ.fin {w wr : World} {g tp : Nat} {pc : Array Value} {ks : List Ky} {wd : List Int} {K Wa : Option Addr} {ck cw : Nat} (h : SJ w g tp pc wr ks wd (.slice K ks.length ck) (.slice Wa wd.length cw)) (hB : Bk wr g 31 #[.slice K ks.length ck, .slice Wa wd.length cw]) (l1 : ks.length ≤ 1000) (l2 : wd.length ≤ 1000) (l3 : ∀ i, i < ks.length → (gk ks i).l.length ≤ 1000) :
    SF w g tp wr ⟨K, ck, ks, Wa, cw, wd⟩ ∧ SW wr ⟨K, ck, ks, Wa, cw, wd⟩ := by
  have oK : ∀ a, K = some a → (Value.slice K ks.length ck).ownBlock = some a.block := fun a ha => by rw [ha]; rfl
  have oW : ∀ a, Wa = some a → (Value.slice Wa wd.length cw).ownBlock = some a.block := fun a ha => by rw [ha]; rfl
  refine ⟨⟨hB, h.r1, ⟨RdK.own h.okk (fun i hi => (h.ok i hi).rd), RdI.own h.oww, l1, l2, l3⟩, fun a ha => (h.okk.lt _ (oK a ha)).1, fun a ha => (h.oww.lt _ (oW a ha)).1, fun i hi a ha => ((h.ok i hi).lt a ha).1, h.ta, h.be, h.lt, h.lg⟩, own_frozen h.oww, fun a ha => ⟨fun b hb => ?_, fun i hi b hb => ?_⟩⟩
  · rcases own_ne h.okk h.oww (by decide) with e | e
    · rw [oK b hb] at e; cases e
    · rw [oK b hb, oW a ha] at e; exact fun e' => e (by rw [e'])
  · exact fun e => (h.nk i hi b hb).2 (by rw [oW a ha, e])
theorem SF.ret {w W : World} {g tp : Nat} {s : Sc} (h : SF w g tp W s) (a b : Value) : ScOk ((W.setCell ⟨w.heap.size + 1, 0, none⟩ a).setCell ⟨w.heap.size + 1, 1, none⟩ b) s ∧ ScNew w s ∧ Tp ((W.setCell ⟨w.heap.size + 1, 0, none⟩ a).setCell ⟨w.heap.size + 1, 1, none⟩ b) tp ∧ w.grownBy ((W.setCell ⟨w.heap.size + 1, 0, none⟩ a).setCell ⟨w.heap.size + 1, 1, none⟩ b) (some tp) := by
  have l1 := h.lt
  have l2 := h.lg
  have aw : ScAw (w.heap.size + 1) s := ⟨fun q hq => by have := h.nK q hq; omega, fun q hq => by have := h.nW q hq; omega, fun i hi q hq => by have := h.nk i hi q hq; omega⟩
  have hg : W.grownBy ((W.setCell ⟨w.heap.size + 1, 0, none⟩ a).setCell ⟨w.heap.size + 1, 1, none⟩ b) (some (w.heap.size + 1)) := gb_set (gb_set (gb_refl _ _) (p := ⟨w.heap.size + 1, 0, none⟩) (.inl rfl) a) (p := ⟨w.heap.size + 1, 1, none⟩) (.inl rfl) b
  exact ⟨h.ok.grown hg aw, ⟨fun q hq => by have := h.nK q hq; omega, fun q hq => by have := h.nW q hq; omega, fun i hi q hq => by have := h.nk i hi q hq; omega⟩, (h.ta.far (by simp; omega) a).far (by simp; omega) b, gb_set (gb_set h.be (p := ⟨w.heap.size + 1, 0, none⟩) (.inr (by simp)) a) (p := ⟨w.heap.size + 1, 1, none⟩) (.inr (by simp)) b⟩
theorem SW.ret {w W : World} {g tp : Nat} {s : Sc} (h : SF w g tp W s) (hs : SW W s) (a b : Value) : SW ((W.setCell ⟨w.heap.size + 1, 0, none⟩ a).setCell ⟨w.heap.size + 1, 1, none⟩ b) s := by
  refine ⟨fun q hq o => ?_, hs.2⟩
  have l2 := h.lg
  have ln := h.nW q hq
  have hg : W.grownBy ((W.setCell ⟨w.heap.size + 1, 0, none⟩ a).setCell ⟨w.heap.size + 1, 1, none⟩ b) (some (w.heap.size + 1)) := gb_set (gb_set (gb_refl _ _) (p := ⟨w.heap.size + 1, 0, none⟩) (.inl rfl) a) (p := ⟨w.heap.size + 1, 1, none⟩) (.inl rfl) b
  by_cases hlt : q.block < W.heap.size
  · exact (World.frozen?_of_block (a := ⟨q.block, o, none⟩) (hg.block q.block hlt (by simp; omega))).trans (hs.1 q hq o)
  · have e : ((W.setCell ⟨w.heap.size + 1, 0, none⟩ a).setCell ⟨w.heap.size + 1, 1, none⟩ b).heap[q.block]? = none := Array.getElem?_eq_none (by simp [World.setCell]; omega)
    simp [World.frozen?, e]
theorem SF.setW {w W : World} {g tp : Nat} {K : Option Addr} {ck : Nat} {ks : List Ky} {gW cw : Nat} {wd : List Int} (h : SF w g tp W ⟨K, ck, ks, some ⟨gW, 0, none⟩, cw, wd⟩) (hs : SW W ⟨K, ck, ks, some ⟨gW, 0, none⟩, cw, wd⟩) (m : Nat) (hm : m < wd.length) (v : Int) : SF w g tp (W.setCell ⟨gW, m, none⟩ (.int .i64 v)) ⟨K, ck, ks, some ⟨gW, 0, none⟩, cw, wd.set m v⟩ := by
  have l1 := h.lt
  have l2 := h.lg
  have l3 : g < gW := h.nW _ rfl
  obtain ⟨a1, a2⟩ := hs.2 _ rfl
  have hr := rdi_set h.ok.rw m hm v
  rw [Nat.zero_add] at hr
  refine ⟨?_, h.r1.far (p := ⟨gW, m, none⟩) (by show w.heap.size + 1 ≠ gW; omega) _, ⟨rdk_far h.ok.rk (p := ⟨gW, m, none⟩) a1 a2 _, hr, h.ok.lk, by show (wd.set m v).length ≤ 1000; rw [List.length_set]; exact h.ok.lw, h.ok.le⟩, h.nK, h.nW, h.nk, h.ta.far (p := ⟨gW, m, none⟩) (by show tp < gW; omega) _, gb_set h.be (p := ⟨gW, m, none⟩) (.inr (by show w.heap.size ≤ gW; omega)) _, l1, l2⟩
  have := h.bk.far (p := ⟨gW, m, none⟩) (by show g ≠ gW; omega) (.int .i64 v)
  show Bk _ _ _ #[.slice K ks.length ck, .slice (some ⟨gW, 0, none⟩) (wd.set m v).length cw]
  rw [List.length_set]
  exact this
theorem rdk_tail {w : World} {gK off : Nat} {ks : List Ky} (h : RdK w (some ⟨gK, off, none⟩) ks) : RdK w (some ⟨gK, off + 1, none⟩) ks.tail := fun i hi => by
  have hi' : i + 1 < ks.length := by simp at hi; omega
  obtain ⟨_, _, e, hlt, hc, hr⟩ := h (i + 1) hi'
  cases e
  have hg : gk ks.tail i = gk ks (i + 1) := by unfold gk; simp [List.getElem?_tail]
  exact ⟨gK, off + 1, rfl, hlt, by rw [hg, Nat.add_assoc, Nat.add_comm 1 i]; exact hc, by rw [hg]; exact hr⟩
theorem SF.tail {w W : World} {g tp : Nat} {gK : Nat} {ck : Nat} {ks : List Ky} {Wa : Option Addr} {cw : Nat} {wd : List Int} (h : SF w g tp W ⟨some ⟨gK, 0, none⟩, ck, ks, Wa, cw, wd⟩) : SF w g tp (W.setCell ⟨g, 0, none⟩ (.slice (some ⟨gK, 1, none⟩) (ks.length - 1) (ck - 1))) ⟨some ⟨gK, 1, none⟩, ck - 1, ks.tail, Wa, cw, wd⟩ := by
  have l1 := h.lt
  have l2 := h.lg
  have l3 : g < gK := h.nK _ rfl
  have hg : ∀ i, gk ks.tail i = gk ks (i + 1) := fun i => by unfold gk; simp [List.getElem?_tail]
  have hl : ∀ i, i < ks.tail.length → i + 1 < ks.length := fun i hi => by simp at hi; omega
  have lk : ks.length ≤ 1000 := h.ok.lk
  refine ⟨?_, h.r1.far (p := ⟨g, 0, none⟩) (by show w.heap.size + 1 ≠ g; omega) _, ⟨rdk_far (rdk_tail h.ok.rk) (p := ⟨g, 0, none⟩) (Away.some (by show gK ≠ g; omega)) (fun i hi a ha => by rw [hg] at ha; have := h.nk (i + 1) (hl i hi) a ha; show a.block ≠ g; omega) _, h.ok.rw.far (p := ⟨g, 0, none⟩) (fun a ha => by have := h.nW a ha; show a.block ≠ g; omega) _, by show ks.tail.length ≤ 1000; rw [List.length_tail]; omega, h.ok.lw, fun i hi => by show (gk ks.tail i).l.length ≤ 1000; rw [hg]; exact h.ok.le (i + 1) (hl i hi)⟩, fun a ha => by cases ha; exact l3, h.nW, fun i hi a ha => by rw [hg] at ha; exact h.nk (i + 1) (hl i hi) a ha, h.ta.far (p := ⟨g, 0, none⟩) (by show tp < g; omega) _, gb_set h.be (p := ⟨g, 0, none⟩) (.inr (by show w.heap.size ≤ g; omega)) _, l1, l2⟩
  have := h.bk.set 0 (.slice (some ⟨gK, 1, none⟩) (ks.length - 1) (ck - 1))
  show Bk _ _ _ #[.slice (some ⟨gK, 1, none⟩) ks.tail.length (ck - 1), .slice Wa wd.length cw]
  rw [List.length_tail]
  exact this
theorem SF.tail0 {w W : World} {g tp : Nat} {gK : Nat} {ck : Nat} {ks : List Ky} {Wa : Option Addr} {cw : Nat} {wd : List Int} (h : SF w g tp W ⟨some ⟨gK, 0, none⟩, ck, ks, Wa, cw, wd⟩) (h1 : ks.length ≤ 1) : SF w g tp (W.setCell ⟨g, 0, none⟩ (.slice (some ⟨gK, 0, none⟩) (ks.length - 1) 0)) ⟨some ⟨gK, 0, none⟩, 0, [], Wa, cw, wd⟩ := by
  have l1 := h.lt
  have l2 := h.lg
  have l3 : g < gK := h.nK _ rfl
  refine ⟨?_, h.r1.far (p := ⟨g, 0, none⟩) (by show w.heap.size + 1 ≠ g; omega) _, ⟨RdK.nil _ _, h.ok.rw.far (p := ⟨g, 0, none⟩) (fun a ha => by have := h.nW a ha; show a.block ≠ g; omega) _, by simp, h.ok.lw, fun i hi => absurd hi (by simp)⟩, fun a ha => by cases ha; exact l3, h.nW, fun i hi => absurd hi (by simp), h.ta.far (p := ⟨g, 0, none⟩) (by show tp < g; omega) _, gb_set h.be (p := ⟨g, 0, none⟩) (.inr (by show w.heap.size ≤ g; omega)) _, l1, l2⟩
  have := h.bk.set 0 (.slice (some ⟨gK, 0, none⟩) (ks.length - 1) 0)
  rw [show ks.length - 1 = 0 by omega] at this ⊢
  exact this
theorem SJ.setK {w W W' : World} {g tp : Nat} {pc : Array Value} {ks : List Ky} {wd : List Int} {gK ck : Nat} {Wa : Option Addr} {cw : Nat} {at_ g4 cap : Nat} {v : Int} (h : SJ w g tp pc W ks wd (.slice (some ⟨gK, 0, none⟩) ks.length ck) (.slice Wa wd.length cw)) (hB : Bk W g 31 #[.slice (some ⟨gK, 0, none⟩) ks.length ck, .slice Wa wd.length cw]) (l1 : ks.length ≤ 1000) (l2 : wd.length ≤ 1000) (l3 : ∀ i, i < ks.length → (gk ks i).l.length ≤ 999)
    (hat : at_ < ks.length) (hg : W.grownBy W' (kv (gk ks at_)).ownBlock) (ho : W'.ownsRow (g + 1) 3 1 (.slice (some ⟨g4, 0, none⟩) ((gk ks at_).l.length + 1) cap) ((gk ks at_).l.length + 1) ((gk ks at_).l.map (Value.int .i64) ++ [.int .i64 v])) (h4 : (kv (gk ks at_)).ownBlock = some g4 ∨ g4 = W.heap.size) :
    SF w g tp (W'.setCell ⟨gK, at_, none⟩ (.slice (some ⟨g4, 0, none⟩) ((gk ks at_).l.length + 1) cap)) ⟨some ⟨gK, 0, none⟩, ck, ks.set at_ ⟨some ⟨g4, 0, none⟩, cap, (gk ks at_).l ++ [v]⟩, Wa, cw, wd⟩ := by
  have m1 := h.lt
  have m2 := h.lg
  have ok_at := h.ok at_ hat
  obtain ⟨t1, t2, t3, t4⟩ := tp_row h ok_at hg
  have gKlt := h.okk.lt gK rfl
  have g4lt := ho.lt g4 rfl
  have hsz := hg.size
  have rowne : ∀ q, (kv (gk ks at_)).ownBlock = some q → ∃ a, (gk ks at_).A = some a ∧ a.block = q := fun q hq => own_blk hq
  have gKrow : (kv (gk ks at_)).ownBlock ≠ some gK := fun e => by
    obtain ⟨a, ha, hq⟩ := rowne _ e
    exact (h.nk at_ hat a ha).1 (by rw [hq]; rfl)
  have gK4 : gK ≠ g4 := fun e => by
    rcases h4 with h4 | h4
    · exact gKrow (by rw [h4, e])
    · omega
  have hgs : W'.grownBy (W'.setCell ⟨gK, at_, none⟩ (.slice (some ⟨g4, 0, none⟩) ((gk ks at_).l.length + 1) cap)) (some gK) := gb_set (gb_refl _ _) (p := ⟨gK, at_, none⟩) (.inl rfl) _
  have okk' := h.okk.kept hg (own_ne h.okk ok_at (by decide))
  have gset : ∀ i, i < ks.length → i ≠ at_ → gk (ks.set at_ ⟨some ⟨g4, 0, none⟩, cap, (gk ks at_).l ++ [v]⟩) i = gk ks i := fun i hi hne => by
    unfold gk; simp [List.getElem?_set, show ¬ at_ = i from fun e => hne e.symm]
  have gsame : gk (ks.set at_ ⟨some ⟨g4, 0, none⟩, cap, (gk ks at_).l ++ [v]⟩) at_ = ⟨some ⟨g4, 0, none⟩, cap, (gk ks at_).l ++ [v]⟩ := by unfold gk; simp [hat]
  have ho' : W'.ownsRow (g + 1) 3 1 (.slice (some ⟨g4, 0, none⟩) ((gk ks at_).l.length + 1) cap) ((gk ks at_).l.length + 1) (((gk ks at_).l ++ [v]).map (Value.int .i64)) := by rw [List.map_append]; exact ho
  have rd4 : RdI (W'.setCell ⟨gK, at_, none⟩ (.slice (some ⟨g4, 0, none⟩) ((gk ks at_).l.length + 1) cap)) .i64 (some ⟨g4, 0, none⟩) ((gk ks at_).l ++ [v]) := (RdI.own ho').grown hgs (Away.some (fun e => gK4 e.symm))
  refine ⟨?_, t4.far (p := ⟨gK, at_, none⟩) (by show w.heap.size + 1 ≠ gK; omega) _, ⟨?_, ?_, by show (ks.set _ _).length ≤ 1000; rw [List.length_set]; exact l1, l2, fun i hi => ?_⟩, fun a ha => by cases ha; show g < gK; omega, fun a ha => ?_, fun i hi a ha => ?_, t1.far (p := ⟨gK, at_, none⟩) (by show tp < gK; omega) _, gb_set t2 (p := ⟨gK, at_, none⟩) (.inr (by show w.heap.size ≤ gK; omega)) _, m1, m2⟩
  · have := (hB.grown hg (fun e => by obtain ⟨a, ha, hq⟩ := rowne _ e.symm; have := (ok_at.lt a ha).1; omega)).far (p := ⟨gK, at_, none⟩) (by show g ≠ gK; omega) (.slice (some ⟨g4, 0, none⟩) ((gk ks at_).l.length + 1) cap)
    show Bk _ _ _ #[.slice (some ⟨gK, 0, none⟩) (ks.set _ _).length ck, .slice Wa wd.length cw]
    rw [List.length_set]
    exact this
  · intro i hi
    have hi' : i < ks.length := by
      have : i < (ks.set at_ ⟨some ⟨g4, 0, none⟩, cap, (gk ks at_).l ++ [v]⟩).length := hi
      rwa [List.length_set] at this
    have hlt : gK < (W'.setCell ⟨gK, at_, none⟩ (.slice (some ⟨g4, 0, none⟩) ((gk ks at_).l.length + 1) cap)).heap.size := by have := hgs.size; omega
    have hcell : W'.cell? ⟨gK, i, none⟩ = some (kv (gk ks i)) := by
      rw [okk'.cellAt i (by omega), List.getElem?_map, gk_lt ks i hi']; rfl
    refine ⟨gK, 0, rfl, hlt, ?_⟩
    rw [Nat.zero_add]
    by_cases e : i = at_
    · subst e
      show _ = some (kv (gk (ks.set i _) i)) ∧ RdI _ _ (gk (ks.set i _) i).A (gk (ks.set i _) i).l
      rw [gsame]
      refine ⟨?_, rd4⟩
      rw [World.cell?_setCell_same _ _ _ hcell]
      show _ = some (Value.slice _ ((gk ks i).l ++ [v]).length cap)
      rw [List.length_append]; rfl
    · show _ = some (kv (gk (ks.set at_ _) i)) ∧ RdI _ _ (gk (ks.set at_ _) i).A (gk (ks.set at_ _) i).l
      rw [gset i hi' e]
      refine ⟨(World.cell?_setCell_other _ _ _ _ (fun e' => e (by have := congrArg Addr.off e'; exact this.symm))).trans hcell, ?_⟩
      refine (rdi_grown ((h.ok i hi').rd) hg (fun a ha e' => ?_)).grown hgs (fun a ha e' => (h.nk i hi' a ha).1 (by rw [e']; rfl))
      obtain ⟨b, hb, hq⟩ := rowne _ e'
      exact h.dk i at_ hi' hat e a b ha hb hq.symm
  · exact (RdI.own (h.oww.kept hg (by
      cases hv : (Value.slice Wa wd.length cw).ownBlock with
      | none => exact .inl rfl
      | some q => exact .inr (fun e => by
          obtain ⟨a, ha, hq⟩ := rowne _ e.symm
          exact (h.nk at_ hat a ha).2 (by rw [hv, hq]))))).grown hgs (fun a ha e' => by
        rcases own_ne h.okk h.oww (by decide) with e | e
        · cases e
        · exact e (by rw [ha]; show some gK = some a.block; rw [e']))
  · have hi' : i < ks.length := by
      have : i < (ks.set at_ ⟨some ⟨g4, 0, none⟩, cap, (gk ks at_).l ++ [v]⟩).length := hi
      rwa [List.length_set] at this
    show (gk (ks.set at_ _) i).l.length ≤ 1000
    by_cases e : i = at_
    · subst e; rw [gsame]; have := l3 i hi'; show ((gk ks i).l ++ [v]).length ≤ 1000; simp; omega
    · rw [gset i hi' e]; have := l3 i hi'; omega
  · exact (h.oww.lt a.block (by rw [show Wa = some a from ha]; rfl)).1
  · have hi' : i < ks.length := by
      have : i < (ks.set at_ ⟨some ⟨g4, 0, none⟩, cap, (gk ks at_).l ++ [v]⟩).length := hi
      rwa [List.length_set] at this
    have ha' : (gk (ks.set at_ ⟨some ⟨g4, 0, none⟩, cap, (gk ks at_).l ++ [v]⟩) i).A = some a := ha
    by_cases e : i = at_
    · subst e; rw [gsame] at ha'; cases ha'; exact g4lt.1
    · rw [gset i hi' e] at ha'; exact ((h.ok i hi').lt a ha').1
theorem own_mono {w : World} {b b' : Nat} {e : TypeId} {sz n : Nat} {v : Value} {xs : List Value} (h : w.ownsRow b e sz v n xs) (hb : b' ≤ b) : w.ownsRow b' e sz v n xs := by
  refine ⟨h.1, ?_⟩
  rcases h.2 with h2 | ⟨g, cap, cur, e, h1, h2⟩
  · exact .inl h2
  · exact .inr ⟨g, cap, cur, e, by omega, h2⟩
set_option maxHeartbeats 8000000 in
set_option maxRecDepth 200000 in
theorem tscheme_any (tp : Nat) (p : Pa) (n : Int) (w : World) (ht : Tp w tp) (hp : PaOk w p) (hA : Away tp p.A) (hl20 : p.l.length ≤ 20) (hPL : PL p.l) (hn : n ≤ 1000) :
    Calls Try.prog 14 #[.pointer (some ⟨tp, 0, none⟩), pav p, .int .i64 n] w (TSc tp p n w) := by
  obtain ⟨i0, hi0, hz0, hz1, hz2⟩ := info_parts infoInt
  obtain ⟨i1, hi1, hy0, hy1, hy2⟩ := info_parts infoSl
  have hlt := ht.lt
  show Calls Try.prog 14 #[.pointer (some ⟨tp, 0, none⟩), .agg #[.int .i64 p.c, .int .i64 p.v, .slice p.A p.l.length p.k], .int .i64 n] w _
  have hr0 := hp.rd
  generalize p.A = A at hr0 hA ⊢
  have HR := Lib.hid hr0
  have HAw := Lib.hid hA
  have HPL := Lib.hid hPL
  clear hr0 hA hPL hp
  have J0 : SJ w (w.heap.size + 1 + 1) tp #[.int .i64 p.c, .int .i64 p.v, .slice A p.l.length p.k] (((w.alloc (.cells #[.int .i64 p.c, .int .i64 p.v, .slice A p.l.length p.k] 27)).alloc (.cells #[.slice none 0 0, .slice none 0 0] 31)).alloc (.cells #[.slice none 0 0, .slice none 0 0] 31)) [] [] (.slice none 0 0) (.slice none 0 0) :=
    ⟨World.ownsRow_nil _ _ _ _, World.ownsRow_nil _ _ _ _, fun i hi => absurd hi (by simp), fun i hi => absurd hi (by simp), fun i j hi => absurd hi (by simp), ((ht.alloc _).alloc _).alloc _, gb_alloc (gb_alloc (gb_alloc (gb_refl _ _) _) _) _, hlt, rfl, by (repeat (first | ((with_reducible refine Bk.new' ?_); (first | rfl | (simp; done) | (simp; omega))) | with_reducible refine Bk.alloc ?_ _ | with_reducible refine Bk.drewN ?_ _ | with_reducible refine Bk.drew ?_ | with_reducible assumption)), by (repeat (first | ((with_reducible refine Bk.new' ?_); (first | rfl | (simp; done) | (simp; omega))) | with_reducible refine Bk.alloc ?_ _ | with_reducible refine Bk.drewN ?_ _ | with_reducible refine Bk.drew ?_ | with_reducible assumption))⟩
  have B0 : Bk (((w.alloc (.cells #[.int .i64 p.c, .int .i64 p.v, .slice A p.l.length p.k] 27)).alloc (.cells #[.slice none 0 0, .slice none 0 0] 31)).alloc (.cells #[.slice none 0 0, .slice none 0 0] 31)) (w.heap.size + 1 + 1) 31 #[.slice none 0 0, .slice none 0 0] := by (repeat (first | ((with_reducible refine Bk.new' ?_); (first | rfl | (simp; done) | (simp; omega))) | with_reducible refine Bk.alloc ?_ _ | with_reducible refine Bk.drewN ?_ _ | with_reducible refine Bk.drew ?_ | with_reducible assumption))
  go_enter Try.func14, Try.ntmps14
  go_wp2_with fail
  clear ht
  generalize hG : w.heap.size + 1 + 1 = g at J0 B0 ⊢
  go_loopw [8] (fun i wr => ∃ (j : Nat) (ks : List Ky) (wd : List Int) (vK vW : Value), j ≤ p.l.length ∧ i = .int .i64 j ∧ Hid (ks.length = j) ∧ Hid (wd.length = j) ∧ Hid (SG p.l ks wd) ∧ Bk wr g 31 #[vK, vW] ∧ SJ w g tp #[.int .i64 p.c, .int .i64 p.v, .slice A p.l.length p.k] wr ks wd vK vW) (fun i _ => p.l.length - (intOf i).toNat)
  case atStart => exact ⟨0, [], [], _, _, by omega, rfl, rfl, rfl, (fun i hi => absurd hi (by simp)), B0, J0⟩
  case round =>
    clear B0 J0
    obtain ⟨j, ks, wd, vK, vW, hj, rfl, Hkl, Hwl, Hsg, hB, J⟩ := hrel
    have hks20 : ks.length ≤ 20 := by have := Hkl.out; omega
    have hwd20 : wd.length ≤ 20 := by have := Hwl.out; omega
    have c2 : wr.cell? ⟨w.heap.size, 2, none⟩ = some (.slice A p.l.length p.k) := J.r0.cell 2
    by_cases hjl : j < p.l.length
    · obtain ⟨b, off, rfl, hbl, a0, a1, a2, a3, a4, a5⟩ := (HR.out.grown J.be HAw.out).at j hjl
      have hpn := (HPL.out j hjl).2.2.2.2.1
      have q0 : (0 : Int) ≤ j := by omega
      have q1 : (j : Int) < p.l.length := by omega
      by_cases hk2 : (gp p.l j).k = 2
      · have z1 : ((gp p.l j).k == 2) = true := beq_iff_eq.2 hk2
        clear hk2
        go_wp2_with fail
        refine (next_any tp 3 _ J.ta (by omega) (by omega)).mono ?_
        rintro e w2 ⟨v, hv, rfl, ht2, hg2⟩
        have J2 := J.turn hg2 ht2
        have hB2 := hB.kept hg2 (by have := J.lg; have := J.lt; omega)
        clear J hB hg2 ht2 a0 a1 a2 a3 a4 a5 c2 hbl
        go_upto_if 30 with fail
        go_cut [9] (fun x wx => ∃ k : Ky, x = kv k ∧ OwnK wx (g + 1) k ∧ Hid (∀ a : Addr, k.A = some a → vK.ownBlock ≠ some a.block ∧ vW.ownBlock ≠ some a.block) ∧ Hid (∀ i, i < ks.length → ∀ a b, (gk ks i).A = some a → k.A = some b → a.block ≠ b.block) ∧ Hid (kOk (gp p.l j).n k.l = true ∧ k.l.length ≤ 7) ∧ Bk wx g 31 #[vK, vW] ∧ SJ w g tp #[.int .i64 p.c, .int .i64 p.v, .slice (some ⟨b, off, none⟩) p.l.length p.k] wx ks wd vK vW)
        case first =>
          by_cases hv0 : v = 0
          · have zb : (v == 0) = true := beq_iff_eq.2 hv0
            clear hv0
            obtain ⟨wo, hwo⟩ : ∃ wo : World, wo = wr := ⟨_, rfl⟩
            subst hwo
            go_wp2_with fail
            rename_i hzz
            clear zb hzz
            go_loopw [9, 10] (fun x i wr => ∃ (q : Nat) (l : List Int), i = .int .i64 q ∧ q ≤ 7 ∧ Hid (KS l q) ∧ Hid (q = 0 ∨ (q : Int) ≤ (gp p.l j).n) ∧ l.length ≤ q ∧ wr.ownsRow w2.heap.size 3 1 x l.length (l.map (Value.int .i64)) ∧ Tp wr tp ∧ w2.grownBy wr (some tp)) (fun _ i _ => ((gp p.l j).n - intOf i).toNat)
            case atStart => exact ⟨0, [], rfl, by omega, ks_nil, .inl rfl, by simp, World.ownsRow_nil _ _ _ _, J2.ta, gb_refl _ _⟩
            case round =>
              obtain ⟨q, l, rfl, hq7, Hks, Hqn, hlq, hown, ht3, hg3⟩ := hrel
              have gw : g + 1 ≤ w2.heap.size := hB2.lt
              have gt : tp < g := by have := J2.lg; have := J2.lt; omega
              have lt0 := J2.lt
              have lb := hB2.lt
              have J3 := J2.turn hg3 ht3
              have c2 : wr.cell? ⟨w.heap.size, 2, none⟩ = some (.slice (some ⟨b, off, none⟩) p.l.length p.k) := J3.r0.cell 2
              obtain ⟨b', off', e', hbl, a0, a1, a2, a3, a4, a5⟩ := (HR.out.grown J3.be HAw.out).at j hjl
              cases e'
              by_cases hqn : (q : Int) < (gp p.l j).n
              · have zq : decide ((q : Int) < (gp p.l j).n) = true := decide_eq_true hqn
                have Hqn' := Lib.hid hqn
                go_wp2_with fail
                refine (next_any tp 2 _ ht3 (by omega) (by omega)).mono ?_
                rintro e w4 ⟨u, hu, rfl, ht4, hg4⟩
                have hg5 := gb_trans hg3 hg4
                have hown4 := own_away hown hg4 (by omega)
                clear hg4 hg3 ht3 hown J3 c2 a0 a1 a2 a3 a4 a5 hbl
                have hz4 := hg5.size
                by_cases hu0 : u = 0
                · have zu : (u == 0) = true := beq_iff_eq.2 hu0
                  clear hu0 hu
                  go_wp2_with (at_builtin; refine wpList_append_own _ rfl _ _ 22 rfl w2.heap.size 3 i0 (.int .i64 0) 1 8 Try.underlying22 hi0 hz0 hz1 hz2 rfl (by decide) _ _ _ rfl (hown4.alloc _) ⟨w4.heap.size, 0, none⟩ 1 1 [_] rfl rfl (one_cell _ _ _ _ rfl) ?c2 ?c3 ?c4 ?c5 ?_)
                  case c2 => simp [Value.oneCell']
                  case c3 => simp only [maxLen]; omega
                  case c4 => omega
                  case c5 => first | omega | (simp; omega)
                  intro v5 w5 hown5 hgrow5 _
                  have ht5 := tape_grown (ht4.alloc _) (hown4.alloc _) (by omega) hgrow5
                  have hg6 := gb_grown (gb_alloc hg5 _) hgrow5 (fun k hk => (hown4.lt k hk).1)
                  have hown6 : w5.ownsRow w2.heap.size 3 1 v5 (l ++ [(q : Int)]).length ((l ++ [(q : Int)]).map (Value.int .i64)) := by
                    rw [List.map_append, List.length_append]; exact hown5
                  clear hown5 hgrow5 hown4 hg5 ht4
                  go_wp2_with fail
                  go_roundw
                  case rel => exact ⟨q + 1, l ++ [(q : Int)], by go_num, by omega, ks_snoc Hks.out, .inr (by have := Hqn'.out; omega), by simp; omega, hown6, ht5, hg6⟩
                  case measure => have := Hqn'.out; simp [intOf]; omega
                · have zu : (u == 0) = false := beq_eq_false_iff_ne.2 hu0
                  clear hu0 hu
                  go_wp2_with fail
                  go_roundw
                  case rel => exact ⟨q + 1, l, by go_num, by omega, ks_step Hks.out, .inr (by have := Hqn'.out; omega), by omega, hown4, ht4, hg5⟩
                  case measure => have := Hqn'.out; simp [intOf]; omega
              · have zq : decide ((q : Int) < (gp p.l j).n) = false := decide_eq_false hqn
                have hB3 := hB2.kept hg3 (by omega)
                obtain ⟨A9, c9, rfl, hr9, ha9⟩ := own_ints hown
                have hok : OwnK wr (g + 1) ⟨A9, c9, l⟩ := own_mono hown (by omega)
                have hkk : kOk (gp p.l j).n l = true ∧ l.length ≤ 7 := by
                  refine ⟨?_, by omega⟩
                  rcases Hqn.out with h0 | h0
                  · have : l = [] := List.length_eq_zero_iff.1 (by omega)
                    rw [this]; exact kOk_nil _
                  · exact ks_ok Hks.out h0
                have Hkk := Lib.hid hkk
                have Hok := Lib.hid hok
                have Ha9 := Lib.hid ha9
                have HJ3 := Lib.hid J3
                have HB3 := Lib.hid hB3
                clear hkk hok ha9 hr9 hown hg3 ht3 J3 hB3
                go_wp2_with fail
                go_meet
                refine ⟨⟨A9, c9, l⟩, rfl, Hok.out, fun a ha => ⟨fun e => ?_, fun e => ?_⟩, fun i hi a b' ha hb' => ?_, Hkk, HB3.out, HJ3.out⟩
                · have := (J2.okk.lt _ e).2; have := (Ha9.out a ha).1; omega
                · have := (J2.oww.lt _ e).2; have := (Ha9.out a ha).1; omega
                · have := ((J2.ok i hi).lt a ha).2; have := (Ha9.out b' hb').1; omega
          · have zb : (v == 0) = false := beq_eq_false_iff_ne.2 hv0
            clear hv0
            go_wp2_with fail
            go_meet
            exact ⟨⟨none, 0, []⟩, rfl, World.ownsRow_nil _ _ _ _, fun a ha => (by cases ha), fun i hi a b' _ hb' => (by cases hb'), ⟨kOk_nil _, by simp⟩, hB2, J2⟩
        case rest =>
          clear J2 hB2
          obtain ⟨k, rfl, hk, hkn, hkd, Hkk, hB, J⟩ := hcut
          go_upto_region 12 with fail
          have JV := J.drew
          have hBV : Bk wc.drew g 31 #[vK, vW] := hB
          have hkV : OwnK wc.drew (g + 1) k := hk
          have lg := Lib.hid J.lg
          have lt0 := J.lt
          clear hG
          refine Am.wp_region_M (S := fun w' => w'.cell? ⟨g, 0, none⟩ = some vK ∧ w'.cell? ⟨g, 1, none⟩ = some vW) [13, 14, 15] (by kernel_rfl) ⟨hBV.cell 0, hBV.cell 1⟩ (fun hS => ?_)
          generalize wc.drew = V at JV hBV hkV hS ⊢
          have hrK := Lib.hid (fun q hq => JV.okk.lt q hq)
          have l0 : g < V.heap.size := hBV.lt
          change Am.wpAnyM _ _ _ _ _ _ 16 _ _ _
          (refine Am.wpAnyM_take (i := 0) (v := ?_) rfl (by kernel_rfl) (by kernel_rfl) (by kernel_rfl) (by kernel_rfl) (by kernel_rfl) (fun _ _ _ h => h) (Or.inl ⟨by rfl, ?_⟩) hS ?_; rotate_left 1; focus (intro w' hSw; (try dsimp only at hSw); go_simp; try (with_reducible rfl)); try simp only [Act.put, List.setIfInBounds_toArray, List.set_cons_zero, List.set_cons_succ])
          (refine Am.wpAnyM_take (i := 1) (v := ?_) rfl (by kernel_rfl) (by kernel_rfl) (by kernel_rfl) (by kernel_rfl) (by kernel_rfl) (fun _ _ _ h => h) (Or.inl ⟨by rfl, ?_⟩) hS ?_; rotate_left 1; focus (intro w' hSw; (try dsimp only at hSw); go_simp; try (with_reducible rfl)); try simp only [Act.put, List.setIfInBounds_toArray, List.set_cons_zero, List.set_cons_succ])
          (refine Am.wpAnyM_take (i := 2) (v := ?_) rfl (by kernel_rfl) (by kernel_rfl) (by kernel_rfl) (by kernel_rfl) (by kernel_rfl) (fun _ _ _ h => h) (Or.inl ⟨by rfl, ?_⟩) hS ?_; rotate_left 1; focus (intro w' hSw; (try dsimp only at hSw); go_simp; try (with_reducible rfl)); try simp only [Act.put, List.setIfInBounds_toArray, List.set_cons_zero, List.set_cons_succ])
          (refine Am.wpAnyM_take (i := 5) (v := ?_) rfl (by kernel_rfl) (by kernel_rfl) (by kernel_rfl) (by kernel_rfl) (by kernel_rfl) (fun _ _ _ h => h) (Or.inl ⟨by rfl, ?_⟩) hS ?_; rotate_left 1; focus (intro w' hSw; (try dsimp only at hSw); go_simp; try (with_reducible rfl)); try simp only [Act.put, List.setIfInBounds_toArray, List.set_cons_zero, List.set_cons_succ])
          (refine Am.wpAnyM_take (i := 6) (v := ?_) rfl (by kernel_rfl) (by kernel_rfl) (by kernel_rfl) (by kernel_rfl) (by kernel_rfl) (fun _ _ _ h => h) (Or.inl ⟨by rfl, ?_⟩) hS ?_; rotate_left 1; focus (intro w' hSw; (try dsimp only at hSw); go_simp; try (with_reducible rfl)); try simp only [Act.put, List.setIfInBounds_toArray, List.set_cons_zero, List.set_cons_succ])
          (refine Am.wpAnyM_take (i := 7) (v := ?_) rfl (by kernel_rfl) (by kernel_rfl) (by kernel_rfl) (by kernel_rfl) (by kernel_rfl) (fun _ _ _ h => h) (Or.inl ⟨by rfl, ?_⟩) hS ?_; rotate_left 1; focus (intro w' hSw; (try dsimp only at hSw); go_simp; try (with_reducible rfl)); try simp only [Act.put, List.setIfInBounds_toArray, List.set_cons_zero, List.set_cons_succ])
          refine wpAnyM_two (i := 3) (j := 8) (by kernel_rfl) rfl rfl (fun K hK => ?_) (fun K hK => ?_)
          · go_simp
            refine hK.out _ _ ⟨(hBV.alloc _).cell 0, (hBV.alloc _).cell 1⟩ (fun hS => ?_)
            clear hK K
            (try simp only [Act.put, List.setIfInBounds_toArray, List.set_cons_zero, List.set_cons_succ])
            have L3 : Bk (V.alloc (.cells #[.slice k.A k.l.length k.c] 22)) V.heap.size 22 #[.slice k.A k.l.length k.c] := Bk.new' rfl
            have JV1 := JV.alloc (.cells #[.slice k.A k.l.length k.c] 22)
            have hBV1 := hBV.alloc (.cells #[.slice k.A k.l.length k.c] 22)
            have hkV1 : OwnK (V.alloc (.cells #[.slice k.A k.l.length k.c] 22)) (g + 1) k := hkV.alloc _
            have sV1 := L3.lt
            generalize V.alloc (.cells #[.slice k.A k.l.length k.c] 22) = V1 at JV1 hBV1 L3 hkV1 sV1 hS ⊢
            clear JV hBV hkV
            refine wpAnyM_two (i := 4) (j := 8) (by kernel_rfl) rfl rfl (fun K hK => ?_) (fun K hK => ?_)
            · refine step_append_lies _ (by rfl) (.tmp 49) (.tmp 51) 29 (by rfl) (g + 1) 22 i1 (.slice none 0 0) 1 24 Try.underlying29 hi1 hy0 hy1 hy2 rfl (by decide) vK ks.length (ks.map kv) (by rfl) JV1.okk ⟨V.heap.size, 0, none⟩ 1 1 [.slice k.A k.l.length k.c] (by rfl) rfl (World.news_of_block L3) (by simp [Value.oneCell']) (by decide) (by simp only [maxLen]; omega) (by omega) (by have := hBV1.lt; omega) _ rfl ?_
              intro g4 cap4 V2 hown4 hgrow4 hat4 hlt4
              have szV2 := hgrow4.size
              have hBV2 := hBV1.grown hgrow4 (fun e => by have := (hrK.out _ e.symm).1; omega)
              refine hK.out _ _ ⟨hBV2.cell 0, hBV2.cell 1⟩ (fun hS => ?_)
              clear hK K
              (try simp only [Act.put, List.setIfInBounds_toArray, List.set_cons_zero, List.set_cons_succ])
              have JV2 := JV1.addK (k := k) hgrow4 hown4 hat4 hkV1 hkn.out hkd.out
              clear JV1 hBV1 hkV1 L3 hown4 hgrow4 hat4
              (refine Am.wpAnyM_take (i := 12) (v := ?_) rfl (by kernel_rfl) (by kernel_rfl) (by kernel_rfl) (by kernel_rfl) (by kernel_rfl) (fun _ _ _ h => h) (Or.inl ⟨by rfl, ?_⟩) hS ?_; rotate_left 1; focus (intro w' hSw; (try dsimp only at hSw); go_simp; try (with_reducible rfl)); try simp only [Act.put, List.setIfInBounds_toArray, List.set_cons_zero, List.set_cons_succ])
              refine Am.wpAnyM_one (i := 8) (by kernel_rfl) rfl (fun K hK => ?_)
              go_simp
              refine hK.out _ _ ⟨(hBV2.alloc _).cell 0, (hBV2.alloc _).cell 1⟩ (fun hS => ?_)
              clear hK K
              (try simp only [Act.put, List.setIfInBounds_toArray, List.set_cons_zero, List.set_cons_succ])
              have L8 : Bk (V2.alloc (.cells #[.int .i64 0, .int .i64 0, .int .i64 0, .int .i64 0, .int .i64 1, .int .i64 2] 3)) V2.heap.size 3 #[.int .i64 0, .int .i64 0, .int .i64 0, .int .i64 0, .int .i64 1, .int .i64 2] := Bk.new' rfl
              have JV3 := JV2.alloc (.cells #[.int .i64 0, .int .i64 0, .int .i64 0, .int .i64 0, .int .i64 1, .int .i64 2] 3)
              have hBV3 := hBV2.alloc (.cells #[.int .i64 0, .int .i64 0, .int .i64 0, .int .i64 0, .int .i64 1, .int .i64 2] 3)
              have sV3 := L8.lt
              generalize V2.alloc (.cells #[.int .i64 0, .int .i64 0, .int .i64 0, .int .i64 0, .int .i64 1, .int .i64 2] 3) = V3 at JV3 hBV3 L8 sV3 hS ⊢
              clear JV2 hBV2
              refine Am.wpAnyM_one (i := 9) (by kernel_rfl) rfl (fun K hK => ?_)
              go_simp
              refine (pick_any tp [0, 0, 0, 0, 1, 2] (some ⟨V2.heap.size, 0, none⟩) 6 _ JV3.ta (by decide) (by decide) (RdI.bk L8 rfl) (Away.some (by show V2.heap.size ≠ tp; have := lg.out; omega))).mono ?_
              rintro e w9 ⟨m, hm, rfl, ht9, hg9⟩
              have Jw9 := JV3.turn hg9 ht9
              have hBw9 := hBV3.kept hg9 (by have := lg.out; omega)
              go_simp
              refine hK.out _ _ ⟨hBw9.cell 0, hBw9.cell 1⟩ (fun hS => ?_)
              clear hK K
              (try simp only [Act.put, List.setIfInBounds_toArray, List.set_cons_zero, List.set_cons_succ])
              clear JV3 hBV3 L8 hg9 ht9
              refine Am.wpAnyM_one (i := 10) (by kernel_rfl) rfl (fun K hK => ?_)
              go_simp
              refine hK.out _ _ ⟨(hBw9.alloc _).cell 0, (hBw9.alloc _).cell 1⟩ (fun hS => ?_)
              clear hK K
              (try simp only [Act.put, List.setIfInBounds_toArray, List.set_cons_zero, List.set_cons_succ])
              have L10 : Bk (w9.alloc (.cells #[.int .i64 m] 3)) w9.heap.size 3 #[.int .i64 m] := Bk.new' rfl
              have Jw10 := Jw9.alloc (.cells #[.int .i64 m] 3)
              have hBw10 := hBw9.alloc (.cells #[.int .i64 m] 3)
              have sw10 := L10.lt
              generalize w9.alloc (.cells #[.int .i64 m] 3) = w10 at Jw10 hBw10 L10 sw10 hS ⊢
              clear Jw9 hBw9
              refine Am.wpAnyM_one (i := 11) (by kernel_rfl) rfl (fun K hK => ?_)
              refine step_append_lies _ (by rfl) (.tmp 54) (.tmp 58) 22 (by rfl) (g + 1) 3 i0 (.int .i64 0) 1 8 Try.underlying22 hi0 hz0 hz1 hz2 rfl (by decide) vW wd.length (wd.map (Value.int .i64)) (by rfl) Jw10.oww ⟨w9.heap.size, 0, none⟩ 1 1 [.int .i64 m] (by rfl) rfl (World.news_of_block L10) (by simp [Value.oneCell']) (by decide) (by simp only [maxLen]; omega) (by omega) (by have := hBw10.lt; omega) _ rfl ?_
              intro g5 cap5 w11 hown5 hgrow5 hat5 hlt5
              have hB11 := hBw10.grown hgrow5 (fun e => by have := (Jw10.oww.lt _ e.symm).1; omega)
              refine hK.out _ _ ⟨hB11.cell 0, hB11.cell 1⟩ (fun hS => ?_)
              clear hK K
              (try simp only [Act.put, List.setIfInBounds_toArray, List.set_cons_zero, List.set_cons_succ])
              have J11 := Jw10.addW (n := m) hgrow5 hown5 hat5
              clear Jw10 hBw10 L10 hown5 hgrow5 hat5 hS
              obtain ⟨⟨x0, x1⟩, xf0, xf1⟩ := bk2 hB11
              (refine Am.wpAnyM_tail (i := 13) (by kernel_rfl) rfl (by rfl) (fun K hK => ?_); go_simp; refine hK.out _ _ ?_; clear hK K; try simp only [Act.put, List.setIfInBounds_toArray, List.set_cons_zero, List.set_cons_succ])
              (refine Am.wpAnyM_tail (i := 14) (by kernel_rfl) rfl (by rfl) (fun K hK => ?_); go_simp; refine hK.out _ _ ?_; clear hK K; try simp only [Act.put, List.setIfInBounds_toArray, List.set_cons_zero, List.set_cons_succ])
              (refine Am.wpAnyM_tail (i := 15) (by kernel_rfl) rfl (by rfl) (fun K hK => ?_); go_simp; refine hK.out _ _ ?_; clear hK K; try simp only [Act.put, List.setIfInBounds_toArray, List.set_cons_zero, List.set_cons_succ])
              refine Am.wpAnyM_done (by kernel_rfl) ?_ _
              clear x0 x1 xf0 xf1
              go_wp2_with fail
              go_roundw
              case rel => exact ⟨j + 1, ks ++ [k], wd ++ [m], _, _, by omega, by go_num, by unfold Hid; rw [List.length_append, Hkl.out]; rfl, by unfold Hid; rw [List.length_append, Hwl.out]; rfl, sg_snoc Hsg.out Hwl.out Hkl.out Hkk.out (knd_pick hm), (hB11.set 0 _).set 1 _, (J11.set 0 _).set 1 _⟩
              case measure => simp [intOf]; omega
            · go_simp
              refine hK.out _ _ ⟨(hBV1.alloc _).cell 0, (hBV1.alloc _).cell 1⟩ (fun hS => ?_)
              clear hK K
              (try simp only [Act.put, List.setIfInBounds_toArray, List.set_cons_zero, List.set_cons_succ])
              have L8 : Bk (V1.alloc (.cells #[.int .i64 0, .int .i64 0, .int .i64 0, .int .i64 0, .int .i64 1, .int .i64 2] 3)) V1.heap.size 3 #[.int .i64 0, .int .i64 0, .int .i64 0, .int .i64 0, .int .i64 1, .int .i64 2] := Bk.new' rfl
              have JV2 := JV1.alloc (.cells #[.int .i64 0, .int .i64 0, .int .i64 0, .int .i64 0, .int .i64 1, .int .i64 2] 3)
              have hBV2 := hBV1.alloc (.cells #[.int .i64 0, .int .i64 0, .int .i64 0, .int .i64 0, .int .i64 1, .int .i64 2] 3)
              have hkV2 : OwnK (V1.alloc (.cells #[.int .i64 0, .int .i64 0, .int .i64 0, .int .i64 0, .int .i64 1, .int .i64 2] 3)) (g + 1) k := hkV1.alloc _
              have L3' := L3.alloc (.cells #[.int .i64 0, .int .i64 0, .int .i64 0, .int .i64 0, .int .i64 1, .int .i64 2] 3)
              have sV2 := L8.lt
              generalize V1.alloc (.cells #[.int .i64 0, .int .i64 0, .int .i64 0, .int .i64 0, .int .i64 1, .int .i64 2] 3) = V2 at JV2 hBV2 L8 hkV2 L3' sV2 hS ⊢
              clear JV1 hBV1 hkV1 L3
              have L3 := L3'
              clear L3'
              refine Am.wpAnyM_one (i := 4) (by kernel_rfl) rfl (fun K hK => ?_)
              refine step_append_lies _ (by rfl) (.tmp 49) (.tmp 51) 29 (by rfl) (g + 1) 22 i1 (.slice none 0 0) 1 24 Try.underlying29 hi1 hy0 hy1 hy2 rfl (by decide) vK ks.length (ks.map kv) (by rfl) JV2.okk ⟨V.heap.size, 0, none⟩ 1 1 [.slice k.A k.l.length k.c] (by rfl) rfl (World.news_of_block L3) (by simp [Value.oneCell']) (by decide) (by simp only [maxLen]; omega) (by omega) (by have := hBV2.lt; omega) _ rfl ?_
              intro g4 cap4 V3 hown4 hgrow4 hat4 hlt4
              have szV3 := hgrow4.size
              have hBV3 := hBV2.grown hgrow4 (fun e => by have := (hrK.out _ e.symm).1; omega)
              refine hK.out _ _ ⟨hBV3.cell 0, hBV3.cell 1⟩ (fun hS => ?_)
              clear hK K
              (try simp only [Act.put, List.setIfInBounds_toArray, List.set_cons_zero, List.set_cons_succ])
              have JV3 := JV2.addK (k := k) hgrow4 hown4 hat4 hkV2 hkn.out hkd.out
              have L8' := L8.grown hgrow4 (fun e => by have := (hrK.out _ e.symm).2; omega)
              clear JV2 hBV2 hkV2 L3 hown4 hgrow4 hat4 L8
              have L8 := L8'
              clear L8'
              (refine Am.wpAnyM_take (i := 12) (v := ?_) rfl (by kernel_rfl) (by kernel_rfl) (by kernel_rfl) (by kernel_rfl) (by kernel_rfl) (fun _ _ _ h => h) (Or.inl ⟨by rfl, ?_⟩) hS ?_; rotate_left 1; focus (intro w' hSw; (try dsimp only at hSw); go_simp; try (with_reducible rfl)); try simp only [Act.put, List.setIfInBounds_toArray, List.set_cons_zero, List.set_cons_succ])
              refine Am.wpAnyM_one (i := 9) (by kernel_rfl) rfl (fun K hK => ?_)
              go_simp
              refine (pick_any tp [0, 0, 0, 0, 1, 2] (some ⟨V1.heap.size, 0, none⟩) 6 _ JV3.ta (by decide) (by decide) (RdI.bk L8 rfl) (Away.some (by show V1.heap.size ≠ tp; have := lg.out; omega))).mono ?_
              rintro e w9 ⟨m, hm, rfl, ht9, hg9⟩
              have Jw9 := JV3.turn hg9 ht9
              have hBw9 := hBV3.kept hg9 (by have := lg.out; omega)
              go_simp
              refine hK.out _ _ ⟨hBw9.cell 0, hBw9.cell 1⟩ (fun hS => ?_)
              clear hK K
              (try simp only [Act.put, List.setIfInBounds_toArray, List.set_cons_zero, List.set_cons_succ])
              clear JV3 hBV3 L8 hg9 ht9
              refine Am.wpAnyM_one (i := 10) (by kernel_rfl) rfl (fun K hK => ?_)
              go_simp
              refine hK.out _ _ ⟨(hBw9.alloc _).cell 0, (hBw9.alloc _).cell 1⟩ (fun hS => ?_)
              clear hK K
              (try simp only [Act.put, List.setIfInBounds_toArray, List.set_cons_zero, List.set_cons_succ])
              have L10 : Bk (w9.alloc (.cells #[.int .i64 m] 3)) w9.heap.size 3 #[.int .i64 m] := Bk.new' rfl
              have Jw10 := Jw9.alloc (.cells #[.int .i64 m] 3)
              have hBw10 := hBw9.alloc (.cells #[.int .i64 m] 3)
              have sw10 := L10.lt
              generalize w9.alloc (.cells #[.int .i64 m] 3) = w10 at Jw10 hBw10 L10 sw10 hS ⊢
              clear Jw9 hBw9
              refine Am.wpAnyM_one (i := 11) (by kernel_rfl) rfl (fun K hK => ?_)
              refine step_append_lies _ (by rfl) (.tmp 54) (.tmp 58) 22 (by rfl) (g + 1) 3 i0 (.int .i64 0) 1 8 Try.underlying22 hi0 hz0 hz1 hz2 rfl (by decide) vW wd.length (wd.map (Value.int .i64)) (by rfl) Jw10.oww ⟨w9.heap.size, 0, none⟩ 1 1 [.int .i64 m] (by rfl) rfl (World.news_of_block L10) (by simp [Value.oneCell']) (by decide) (by simp only [maxLen]; omega) (by omega) (by have := hBw10.lt; omega) _ rfl ?_
              intro g5 cap5 w11 hown5 hgrow5 hat5 hlt5
              have hB11 := hBw10.grown hgrow5 (fun e => by have := (Jw10.oww.lt _ e.symm).1; omega)
              refine hK.out _ _ ⟨hB11.cell 0, hB11.cell 1⟩ (fun hS => ?_)
              clear hK K
              (try simp only [Act.put, List.setIfInBounds_toArray, List.set_cons_zero, List.set_cons_succ])
              have J11 := Jw10.addW (n := m) hgrow5 hown5 hat5
              clear Jw10 hBw10 L10 hown5 hgrow5 hat5 hS
              obtain ⟨⟨x0, x1⟩, xf0, xf1⟩ := bk2 hB11
              (refine Am.wpAnyM_tail (i := 13) (by kernel_rfl) rfl (by rfl) (fun K hK => ?_); go_simp; refine hK.out _ _ ?_; clear hK K; try simp only [Act.put, List.setIfInBounds_toArray, List.set_cons_zero, List.set_cons_succ])
              (refine Am.wpAnyM_tail (i := 14) (by kernel_rfl) rfl (by rfl) (fun K hK => ?_); go_simp; refine hK.out _ _ ?_; clear hK K; try simp only [Act.put, List.setIfInBounds_toArray, List.set_cons_zero, List.set_cons_succ])
              (refine Am.wpAnyM_tail (i := 15) (by kernel_rfl) rfl (by rfl) (fun K hK => ?_); go_simp; refine hK.out _ _ ?_; clear hK K; try simp only [Act.put, List.setIfInBounds_toArray, List.set_cons_zero, List.set_cons_succ])
              refine Am.wpAnyM_done (by kernel_rfl) ?_ _
              clear x0 x1 xf0 xf1
              go_wp2_with fail
              go_roundw
              case rel => exact ⟨j + 1, ks ++ [k], wd ++ [m], _, _, by omega, by go_num, by unfold Hid; rw [List.length_append, Hkl.out]; rfl, by unfold Hid; rw [List.length_append, Hwl.out]; rfl, sg_snoc Hsg.out Hwl.out Hkl.out Hkk.out (knd_pick hm), (hB11.set 0 _).set 1 _, (J11.set 0 _).set 1 _⟩
              case measure => simp [intOf]; omega
          · go_simp
            refine hK.out _ _ ⟨(hBV.alloc _).cell 0, (hBV.alloc _).cell 1⟩ (fun hS => ?_)
            clear hK K
            (try simp only [Act.put, List.setIfInBounds_toArray, List.set_cons_zero, List.set_cons_succ])
            have L8 : Bk (V.alloc (.cells #[.int .i64 0, .int .i64 0, .int .i64 0, .int .i64 0, .int .i64 1, .int .i64 2] 3)) V.heap.size 3 #[.int .i64 0, .int .i64 0, .int .i64 0, .int .i64 0, .int .i64 1, .int .i64 2] := Bk.new' rfl
            have JV1 := JV.alloc (.cells #[.int .i64 0, .int .i64 0, .int .i64 0, .int .i64 0, .int .i64 1, .int .i64 2] 3)
            have hBV1 := hBV.alloc (.cells #[.int .i64 0, .int .i64 0, .int .i64 0, .int .i64 0, .int .i64 1, .int .i64 2] 3)
            have hkV1 : OwnK (V.alloc (.cells #[.int .i64 0, .int .i64 0, .int .i64 0, .int .i64 0, .int .i64 1, .int .i64 2] 3)) (g + 1) k := hkV.alloc _
            have sV1 := L8.lt
            generalize V.alloc (.cells #[.int .i64 0, .int .i64 0, .int .i64 0, .int .i64 0, .int .i64 1, .int .i64 2] 3) = V1 at JV1 hBV1 L8 hkV1 sV1 hS ⊢
            clear JV hBV hkV
            refine Am.wpAnyM_one (i := 3) (by kernel_rfl) rfl (fun K hK => ?_)
            go_simp
            refine hK.out _ _ ⟨(hBV1.alloc _).cell 0, (hBV1.alloc _).cell 1⟩ (fun hS => ?_)
            clear hK K
            (try simp only [Act.put, List.setIfInBounds_toArray, List.set_cons_zero, List.set_cons_succ])
            have L3 : Bk (V1.alloc (.cells #[.slice k.A k.l.length k.c] 22)) V1.heap.size 22 #[.slice k.A k.l.length k.c] := Bk.new' rfl
            have JV2 := JV1.alloc (.cells #[.slice k.A k.l.length k.c] 22)
            have hBV2 := hBV1.alloc (.cells #[.slice k.A k.l.length k.c] 22)
            have hkV2 : OwnK (V1.alloc (.cells #[.slice k.A k.l.length k.c] 22)) (g + 1) k := hkV1.alloc _
            have L8' := L8.alloc (.cells #[.slice k.A k.l.length k.c] 22)
            have sV2 := L3.lt
            generalize V1.alloc (.cells #[.slice k.A k.l.length k.c] 22) = V2 at JV2 hBV2 L3 hkV2 L8' sV2 hS ⊢
            clear JV1 hBV1 hkV1 L8
            have L8 := L8'
            clear L8'
            refine Am.wpAnyM_one (i := 4) (by kernel_rfl) rfl (fun K hK => ?_)
            refine step_append_lies _ (by rfl) (.tmp 49) (.tmp 51) 29 (by rfl) (g + 1) 22 i1 (.slice none 0 0) 1 24 Try.underlying29 hi1 hy0 hy1 hy2 rfl (by decide) vK ks.length (ks.map kv) (by rfl) JV2.okk ⟨V1.heap.size, 0, none⟩ 1 1 [.slice k.A k.l.length k.c] (by rfl) rfl (World.news_of_block L3) (by simp [Value.oneCell']) (by decide) (by simp only [maxLen]; omega) (by omega) (by have := hBV2.lt; omega) _ rfl ?_
            intro g4 cap4 V3 hown4 hgrow4 hat4 hlt4
            have szV3 := hgrow4.size
            have hBV3 := hBV2.grown hgrow4 (fun e => by have := (hrK.out _ e.symm).1; omega)
            refine hK.out _ _ ⟨hBV3.cell 0, hBV3.cell 1⟩ (fun hS => ?_)
            clear hK K
            (try simp only [Act.put, List.setIfInBounds_toArray, List.set_cons_zero, List.set_cons_succ])
            have JV3 := JV2.addK (k := k) hgrow4 hown4 hat4 hkV2 hkn.out hkd.out
            have L8' := L8.grown hgrow4 (fun e => by have := (hrK.out _ e.symm).2; omega)
            clear JV2 hBV2 hkV2 L3 hown4 hgrow4 hat4 L8
            have L8 := L8'
            clear L8'
            (refine Am.wpAnyM_take (i := 12) (v := ?_) rfl (by kernel_rfl) (by kernel_rfl) (by kernel_rfl) (by kernel_rfl) (by kernel_rfl) (fun _ _ _ h => h) (Or.inl ⟨by rfl, ?_⟩) hS ?_; rotate_left 1; focus (intro w' hSw; (try dsimp only at hSw); go_simp; try (with_reducible rfl)); try simp only [Act.put, List.setIfInBounds_toArray, List.set_cons_zero, List.set_cons_succ])
            refine Am.wpAnyM_one (i := 9) (by kernel_rfl) rfl (fun K hK => ?_)
            go_simp
            refine (pick_any tp [0, 0, 0, 0, 1, 2] (some ⟨V.heap.size, 0, none⟩) 6 _ JV3.ta (by decide) (by decide) (RdI.bk L8 rfl) (Away.some (by show V.heap.size ≠ tp; have := lg.out; omega))).mono ?_
            rintro e w9 ⟨m, hm, rfl, ht9, hg9⟩
            have Jw9 := JV3.turn hg9 ht9
            have hBw9 := hBV3.kept hg9 (by have := lg.out; omega)
            go_simp
            refine hK.out _ _ ⟨hBw9.cell 0, hBw9.cell 1⟩ (fun hS => ?_)
            clear hK K
            (try simp only [Act.put, List.setIfInBounds_toArray, List.set_cons_zero, List.set_cons_succ])
            clear JV3 hBV3 L8 hg9 ht9
            refine Am.wpAnyM_one (i := 10) (by kernel_rfl) rfl (fun K hK => ?_)
            go_simp
            refine hK.out _ _ ⟨(hBw9.alloc _).cell 0, (hBw9.alloc _).cell 1⟩ (fun hS => ?_)
            clear hK K
            (try simp only [Act.put, List.setIfInBounds_toArray, List.set_cons_zero, List.set_cons_succ])
            have L10 : Bk (w9.alloc (.cells #[.int .i64 m] 3)) w9.heap.size 3 #[.int .i64 m] := Bk.new' rfl
            have Jw10 := Jw9.alloc (.cells #[.int .i64 m] 3)
            have hBw10 := hBw9.alloc (.cells #[.int .i64 m] 3)
            have sw10 := L10.lt
            generalize w9.alloc (.cells #[.int .i64 m] 3) = w10 at Jw10 hBw10 L10 sw10 hS ⊢
            clear Jw9 hBw9
            refine Am.wpAnyM_one (i := 11) (by kernel_rfl) rfl (fun K hK => ?_)
            refine step_append_lies _ (by rfl) (.tmp 54) (.tmp 58) 22 (by rfl) (g + 1) 3 i0 (.int .i64 0) 1 8 Try.underlying22 hi0 hz0 hz1 hz2 rfl (by decide) vW wd.length (wd.map (Value.int .i64)) (by rfl) Jw10.oww ⟨w9.heap.size, 0, none⟩ 1 1 [.int .i64 m] (by rfl) rfl (World.news_of_block L10) (by simp [Value.oneCell']) (by decide) (by simp only [maxLen]; omega) (by omega) (by have := hBw10.lt; omega) _ rfl ?_
            intro g5 cap5 w11 hown5 hgrow5 hat5 hlt5
            have hB11 := hBw10.grown hgrow5 (fun e => by have := (Jw10.oww.lt _ e.symm).1; omega)
            refine hK.out _ _ ⟨hB11.cell 0, hB11.cell 1⟩ (fun hS => ?_)
            clear hK K
            (try simp only [Act.put, List.setIfInBounds_toArray, List.set_cons_zero, List.set_cons_succ])
            have J11 := Jw10.addW (n := m) hgrow5 hown5 hat5
            clear Jw10 hBw10 L10 hown5 hgrow5 hat5 hS
            obtain ⟨⟨x0, x1⟩, xf0, xf1⟩ := bk2 hB11
            (refine Am.wpAnyM_tail (i := 13) (by kernel_rfl) rfl (by rfl) (fun K hK => ?_); go_simp; refine hK.out _ _ ?_; clear hK K; try simp only [Act.put, List.setIfInBounds_toArray, List.set_cons_zero, List.set_cons_succ])
            (refine Am.wpAnyM_tail (i := 14) (by kernel_rfl) rfl (by rfl) (fun K hK => ?_); go_simp; refine hK.out _ _ ?_; clear hK K; try simp only [Act.put, List.setIfInBounds_toArray, List.set_cons_zero, List.set_cons_succ])
            (refine Am.wpAnyM_tail (i := 15) (by kernel_rfl) rfl (by rfl) (fun K hK => ?_); go_simp; refine hK.out _ _ ?_; clear hK K; try simp only [Act.put, List.setIfInBounds_toArray, List.set_cons_zero, List.set_cons_succ])
            refine Am.wpAnyM_done (by kernel_rfl) ?_ _
            clear x0 x1 xf0 xf1
            go_wp2_with fail
            go_roundw
            case rel => exact ⟨j + 1, ks ++ [k], wd ++ [m], _, _, by omega, by go_num, by unfold Hid; rw [List.length_append, Hkl.out]; rfl, by unfold Hid; rw [List.length_append, Hwl.out]; rfl, sg_snoc Hsg.out Hwl.out Hkl.out Hkk.out (knd_pick hm), (hB11.set 0 _).set 1 _, (J11.set 0 _).set 1 _⟩
            case measure => simp [intOf]; omega
      · have z1 : ((gp p.l j).k == 2) = false := beq_eq_false_iff_ne.2 hk2
        clear hk2
        have hk : OwnK wr (g + 1) ⟨none, 0, []⟩ := World.ownsRow_nil _ _ _ _
        have hkn : Hid (∀ a : Addr, (⟨none, 0, []⟩ : Ky).A = some a → vK.ownBlock ≠ some a.block ∧ vW.ownBlock ≠ some a.block) := fun a ha => by cases ha
        have hkd : Hid (∀ i, i < ks.length → ∀ a b, (gk ks i).A = some a → (⟨none, 0, []⟩ : Ky).A = some b → a.block ≠ b.block) := fun i hi a b _ hb => by cases hb
        have Hkk : Hid (kOk (gp p.l j).n (⟨none, 0, []⟩ : Ky).l = true ∧ (⟨none, 0, []⟩ : Ky).l.length ≤ 7) := ⟨kOk_nil _, by simp⟩
        go_upto_region 12 with fail
        have JV := J.drew
        have hBV : Bk wr.drew g 31 #[vK, vW] := hB
        have hkV : OwnK wr.drew (g + 1) ⟨none, 0, []⟩ := hk
        have lg := Lib.hid J.lg
        have lt0 := J.lt
        clear hG
        refine Am.wp_region_M (S := fun w' => w'.cell? ⟨g, 0, none⟩ = some vK ∧ w'.cell? ⟨g, 1, none⟩ = some vW) [13, 14, 15] (by kernel_rfl) ⟨hBV.cell 0, hBV.cell 1⟩ (fun hS => ?_)
        generalize wr.drew = V at JV hBV hkV hS ⊢
        have hrK := Lib.hid (fun q hq => JV.okk.lt q hq)
        have l0 : g < V.heap.size := hBV.lt
        change Am.wpAnyM _ _ _ _ _ _ 16 _ _ _
        (refine Am.wpAnyM_take (i := 0) (v := ?_) rfl (by kernel_rfl) (by kernel_rfl) (by kernel_rfl) (by kernel_rfl) (by kernel_rfl) (fun _ _ _ h => h) (Or.inl ⟨by rfl, ?_⟩) hS ?_; rotate_left 1; focus (intro w' hSw; (try dsimp only at hSw); go_simp; try (with_reducible rfl)); try simp only [Act.put, List.setIfInBounds_toArray, List.set_cons_zero, List.set_cons_succ])
        (refine Am.wpAnyM_take (i := 1) (v := ?_) rfl (by kernel_rfl) (by kernel_rfl) (by kernel_rfl) (by kernel_rfl) (by kernel_rfl) (fun _ _ _ h => h) (Or.inl ⟨by rfl, ?_⟩) hS ?_; rotate_left 1; focus (intro w' hSw; (try dsimp only at hSw); go_simp; try (with_reducible rfl)); try simp only [Act.put, List.setIfInBounds_toArray, List.set_cons_zero, List.set_cons_succ])
        (refine Am.wpAnyM_take (i := 2) (v := ?_) rfl (by kernel_rfl) (by kernel_rfl) (by kernel_rfl) (by kernel_rfl) (by kernel_rfl) (fun _ _ _ h => h) (Or.inl ⟨by rfl, ?_⟩) hS ?_; rotate_left 1; focus (intro w' hSw; (try dsimp only at hSw); go_simp; try (with_reducible rfl)); try simp only [Act.put, List.setIfInBounds_toArray, List.set_cons_zero, List.set_cons_succ])
        (refine Am.wpAnyM_take (i := 5) (v := ?_) rfl (by kernel_rfl) (by kernel_rfl) (by kernel_rfl) (by kernel_rfl) (by kernel_rfl) (fun _ _ _ h => h) (Or.inl ⟨by rfl, ?_⟩) hS ?_; rotate_left 1; focus (intro w' hSw; (try dsimp only at hSw); go_simp; try (with_reducible rfl)); try simp only [Act.put, List.setIfInBounds_toArray, List.set_cons_zero, List.set_cons_succ])
        (refine Am.wpAnyM_take (i := 6) (v := ?_) rfl (by kernel_rfl) (by kernel_rfl) (by kernel_rfl) (by kernel_rfl) (by kernel_rfl) (fun _ _ _ h => h) (Or.inl ⟨by rfl, ?_⟩) hS ?_; rotate_left 1; focus (intro w' hSw; (try dsimp only at hSw); go_simp; try (with_reducible rfl)); try simp only [Act.put, List.setIfInBounds_toArray, List.set_cons_zero, List.set_cons_succ])
        (refine Am.wpAnyM_take (i := 7) (v := ?_) rfl (by kernel_rfl) (by kernel_rfl) (by kernel_rfl) (by kernel_rfl) (by kernel_rfl) (fun _ _ _ h => h) (Or.inl ⟨by rfl, ?_⟩) hS ?_; rotate_left 1; focus (intro w' hSw; (try dsimp only at hSw); go_simp; try (with_reducible rfl)); try simp only [Act.put, List.setIfInBounds_toArray, List.set_cons_zero, List.set_cons_succ])
        refine wpAnyM_two (i := 3) (j := 8) (by kernel_rfl) rfl rfl (fun K hK => ?_) (fun K hK => ?_)
        · go_simp
          refine hK.out _ _ ⟨(hBV.alloc _).cell 0, (hBV.alloc _).cell 1⟩ (fun hS => ?_)
          clear hK K
          (try simp only [Act.put, List.setIfInBounds_toArray, List.set_cons_zero, List.set_cons_succ])
          have L3 : Bk (V.alloc (.cells #[.slice none 0 0] 22)) V.heap.size 22 #[.slice none 0 0] := Bk.new' rfl
          have JV1 := JV.alloc (.cells #[.slice none 0 0] 22)
          have hBV1 := hBV.alloc (.cells #[.slice none 0 0] 22)
          have hkV1 : OwnK (V.alloc (.cells #[.slice none 0 0] 22)) (g + 1) ⟨none, 0, []⟩ := hkV.alloc _
          have sV1 := L3.lt
          generalize V.alloc (.cells #[.slice none 0 0] 22) = V1 at JV1 hBV1 L3 hkV1 sV1 hS ⊢
          clear JV hBV hkV
          refine wpAnyM_two (i := 4) (j := 8) (by kernel_rfl) rfl rfl (fun K hK => ?_) (fun K hK => ?_)
          · refine step_append_lies _ (by rfl) (.tmp 49) (.tmp 51) 29 (by rfl) (g + 1) 22 i1 (.slice none 0 0) 1 24 Try.underlying29 hi1 hy0 hy1 hy2 rfl (by decide) vK ks.length (ks.map kv) (by rfl) JV1.okk ⟨V.heap.size, 0, none⟩ 1 1 [.slice none 0 0] (by rfl) rfl (World.news_of_block L3) (by simp [Value.oneCell']) (by decide) (by simp only [maxLen]; omega) (by omega) (by have := hBV1.lt; omega) _ rfl ?_
            intro g4 cap4 V2 hown4 hgrow4 hat4 hlt4
            have szV2 := hgrow4.size
            have hBV2 := hBV1.grown hgrow4 (fun e => by have := (hrK.out _ e.symm).1; omega)
            refine hK.out _ _ ⟨hBV2.cell 0, hBV2.cell 1⟩ (fun hS => ?_)
            clear hK K
            (try simp only [Act.put, List.setIfInBounds_toArray, List.set_cons_zero, List.set_cons_succ])
            have JV2 := JV1.addK (k := ⟨none, 0, []⟩) hgrow4 hown4 hat4 hkV1 hkn.out hkd.out
            clear JV1 hBV1 hkV1 L3 hown4 hgrow4 hat4
            (refine Am.wpAnyM_take (i := 12) (v := ?_) rfl (by kernel_rfl) (by kernel_rfl) (by kernel_rfl) (by kernel_rfl) (by kernel_rfl) (fun _ _ _ h => h) (Or.inl ⟨by rfl, ?_⟩) hS ?_; rotate_left 1; focus (intro w' hSw; (try dsimp only at hSw); go_simp; try (with_reducible rfl)); try simp only [Act.put, List.setIfInBounds_toArray, List.set_cons_zero, List.set_cons_succ])
            refine Am.wpAnyM_one (i := 8) (by kernel_rfl) rfl (fun K hK => ?_)
            go_simp
            refine hK.out _ _ ⟨(hBV2.alloc _).cell 0, (hBV2.alloc _).cell 1⟩ (fun hS => ?_)
            clear hK K
            (try simp only [Act.put, List.setIfInBounds_toArray, List.set_cons_zero, List.set_cons_succ])
            have L8 : Bk (V2.alloc (.cells #[.int .i64 0, .int .i64 0, .int .i64 0, .int .i64 0, .int .i64 1, .int .i64 2] 3)) V2.heap.size 3 #[.int .i64 0, .int .i64 0, .int .i64 0, .int .i64 0, .int .i64 1, .int .i64 2] := Bk.new' rfl
            have JV3 := JV2.alloc (.cells #[.int .i64 0, .int .i64 0, .int .i64 0, .int .i64 0, .int .i64 1, .int .i64 2] 3)
            have hBV3 := hBV2.alloc (.cells #[.int .i64 0, .int .i64 0, .int .i64 0, .int .i64 0, .int .i64 1, .int .i64 2] 3)
            have sV3 := L8.lt
            generalize V2.alloc (.cells #[.int .i64 0, .int .i64 0, .int .i64 0, .int .i64 0, .int .i64 1, .int .i64 2] 3) = V3 at JV3 hBV3 L8 sV3 hS ⊢
            clear JV2 hBV2
            refine Am.wpAnyM_one (i := 9) (by kernel_rfl) rfl (fun K hK => ?_)
            go_simp
            refine (pick_any tp [0, 0, 0, 0, 1, 2] (some ⟨V2.heap.size, 0, none⟩) 6 _ JV3.ta (by decide) (by decide) (RdI.bk L8 rfl) (Away.some (by show V2.heap.size ≠ tp; have := lg.out; omega))).mono ?_
            rintro e w9 ⟨m, hm, rfl, ht9, hg9⟩
            have Jw9 := JV3.turn hg9 ht9
            have hBw9 := hBV3.kept hg9 (by have := lg.out; omega)
            go_simp
            refine hK.out _ _ ⟨hBw9.cell 0, hBw9.cell 1⟩ (fun hS => ?_)
            clear hK K
            (try simp only [Act.put, List.setIfInBounds_toArray, List.set_cons_zero, List.set_cons_succ])
            clear JV3 hBV3 L8 hg9 ht9
            refine Am.wpAnyM_one (i := 10) (by kernel_rfl) rfl (fun K hK => ?_)
            go_simp
            refine hK.out _ _ ⟨(hBw9.alloc _).cell 0, (hBw9.alloc _).cell 1⟩ (fun hS => ?_)
            clear hK K
            (try simp only [Act.put, List.setIfInBounds_toArray, List.set_cons_zero, List.set_cons_succ])
            have L10 : Bk (w9.alloc (.cells #[.int .i64 m] 3)) w9.heap.size 3 #[.int .i64 m] := Bk.new' rfl
            have Jw10 := Jw9.alloc (.cells #[.int .i64 m] 3)
            have hBw10 := hBw9.alloc (.cells #[.int .i64 m] 3)
            have sw10 := L10.lt
            generalize w9.alloc (.cells #[.int .i64 m] 3) = w10 at Jw10 hBw10 L10 sw10 hS ⊢
            clear Jw9 hBw9
            refine Am.wpAnyM_one (i := 11) (by kernel_rfl) rfl (fun K hK => ?_)
            refine step_append_lies _ (by rfl) (.tmp 54) (.tmp 58) 22 (by rfl) (g + 1) 3 i0 (.int .i64 0) 1 8 Try.underlying22 hi0 hz0 hz1 hz2 rfl (by decide) vW wd.length (wd.map (Value.int .i64)) (by rfl) Jw10.oww ⟨w9.heap.size, 0, none⟩ 1 1 [.int .i64 m] (by rfl) rfl (World.news_of_block L10) (by simp [Value.oneCell']) (by decide) (by simp only [maxLen]; omega) (by omega) (by have := hBw10.lt; omega) _ rfl ?_
            intro g5 cap5 w11 hown5 hgrow5 hat5 hlt5
            have hB11 := hBw10.grown hgrow5 (fun e => by have := (Jw10.oww.lt _ e.symm).1; omega)
            refine hK.out _ _ ⟨hB11.cell 0, hB11.cell 1⟩ (fun hS => ?_)
            clear hK K
            (try simp only [Act.put, List.setIfInBounds_toArray, List.set_cons_zero, List.set_cons_succ])
            have J11 := Jw10.addW (n := m) hgrow5 hown5 hat5
            clear Jw10 hBw10 L10 hown5 hgrow5 hat5 hS
            obtain ⟨⟨x0, x1⟩, xf0, xf1⟩ := bk2 hB11
            (refine Am.wpAnyM_tail (i := 13) (by kernel_rfl) rfl (by rfl) (fun K hK => ?_); go_simp; refine hK.out _ _ ?_; clear hK K; try simp only [Act.put, List.setIfInBounds_toArray, List.set_cons_zero, List.set_cons_succ])
            (refine Am.wpAnyM_tail (i := 14) (by kernel_rfl) rfl (by rfl) (fun K hK => ?_); go_simp; refine hK.out _ _ ?_; clear hK K; try simp only [Act.put, List.setIfInBounds_toArray, List.set_cons_zero, List.set_cons_succ])
            (refine Am.wpAnyM_tail (i := 15) (by kernel_rfl) rfl (by rfl) (fun K hK => ?_); go_simp; refine hK.out _ _ ?_; clear hK K; try simp only [Act.put, List.setIfInBounds_toArray, List.set_cons_zero, List.set_cons_succ])
            refine Am.wpAnyM_done (by kernel_rfl) ?_ _
            clear x0 x1 xf0 xf1
            go_wp2_with fail
            go_roundw
            case rel => exact ⟨j + 1, ks ++ [⟨none, 0, []⟩], wd ++ [m], _, _, by omega, by go_num, by unfold Hid; rw [List.length_append, Hkl.out]; rfl, by unfold Hid; rw [List.length_append, Hwl.out]; rfl, sg_snoc Hsg.out Hwl.out Hkl.out Hkk.out (knd_pick hm), (hB11.set 0 _).set 1 _, (J11.set 0 _).set 1 _⟩
            case measure => simp [intOf]; omega
          · go_simp
            refine hK.out _ _ ⟨(hBV1.alloc _).cell 0, (hBV1.alloc _).cell 1⟩ (fun hS => ?_)
            clear hK K
            (try simp only [Act.put, List.setIfInBounds_toArray, List.set_cons_zero, List.set_cons_succ])
            have L8 : Bk (V1.alloc (.cells #[.int .i64 0, .int .i64 0, .int .i64 0, .int .i64 0, .int .i64 1, .int .i64 2] 3)) V1.heap.size 3 #[.int .i64 0, .int .i64 0, .int .i64 0, .int .i64 0, .int .i64 1, .int .i64 2] := Bk.new' rfl
            have JV2 := JV1.alloc (.cells #[.int .i64 0, .int .i64 0, .int .i64 0, .int .i64 0, .int .i64 1, .int .i64 2] 3)
            have hBV2 := hBV1.alloc (.cells #[.int .i64 0, .int .i64 0, .int .i64 0, .int .i64 0, .int .i64 1, .int .i64 2] 3)
            have hkV2 : OwnK (V1.alloc (.cells #[.int .i64 0, .int .i64 0, .int .i64 0, .int .i64 0, .int .i64 1, .int .i64 2] 3)) (g + 1) ⟨none, 0, []⟩ := hkV1.alloc _
            have L3' := L3.alloc (.cells #[.int .i64 0, .int .i64 0, .int .i64 0, .int .i64 0, .int .i64 1, .int .i64 2] 3)
            have sV2 := L8.lt
            generalize V1.alloc (.cells #[.int .i64 0, .int .i64 0, .int .i64 0, .int .i64 0, .int .i64 1, .int .i64 2] 3) = V2 at JV2 hBV2 L8 hkV2 L3' sV2 hS ⊢
            clear JV1 hBV1 hkV1 L3
            have L3 := L3'
            clear L3'
            refine Am.wpAnyM_one (i := 4) (by kernel_rfl) rfl (fun K hK => ?_)
            refine step_append_lies _ (by rfl) (.tmp 49) (.tmp 51) 29 (by rfl) (g + 1) 22 i1 (.slice none 0 0) 1 24 Try.underlying29 hi1 hy0 hy1 hy2 rfl (by decide) vK ks.length (ks.map kv) (by rfl) JV2.okk ⟨V.heap.size, 0, none⟩ 1 1 [.slice none 0 0] (by rfl) rfl (World.news_of_block L3) (by simp [Value.oneCell']) (by decide) (by simp only [maxLen]; omega) (by omega) (by have := hBV2.lt; omega) _ rfl ?_
            intro g4 cap4 V3 hown4 hgrow4 hat4 hlt4
            have szV3 := hgrow4.size
            have hBV3 := hBV2.grown hgrow4 (fun e => by have := (hrK.out _ e.symm).1; omega)
            refine hK.out _ _ ⟨hBV3.cell 0, hBV3.cell 1⟩ (fun hS => ?_)
            clear hK K
            (try simp only [Act.put, List.setIfInBounds_toArray, List.set_cons_zero, List.set_cons_succ])
            have JV3 := JV2.addK (k := ⟨none, 0, []⟩) hgrow4 hown4 hat4 hkV2 hkn.out hkd.out
            have L8' := L8.grown hgrow4 (fun e => by have := (hrK.out _ e.symm).2; omega)
            clear JV2 hBV2 hkV2 L3 hown4 hgrow4 hat4 L8
            have L8 := L8'
            clear L8'
            (refine Am.wpAnyM_take (i := 12) (v := ?_) rfl (by kernel_rfl) (by kernel_rfl) (by kernel_rfl) (by kernel_rfl) (by kernel_rfl) (fun _ _ _ h => h) (Or.inl ⟨by rfl, ?_⟩) hS ?_; rotate_left 1; focus (intro w' hSw; (try dsimp only at hSw); go_simp; try (with_reducible rfl)); try simp only [Act.put, List.setIfInBounds_toArray, List.set_cons_zero, List.set_cons_succ])
            refine Am.wpAnyM_one (i := 9) (by kernel_rfl) rfl (fun K hK => ?_)
            go_simp
            refine (pick_any tp [0, 0, 0, 0, 1, 2] (some ⟨V1.heap.size, 0, none⟩) 6 _ JV3.ta (by decide) (by decide) (RdI.bk L8 rfl) (Away.some (by show V1.heap.size ≠ tp; have := lg.out; omega))).mono ?_
            rintro e w9 ⟨m, hm, rfl, ht9, hg9⟩
            have Jw9 := JV3.turn hg9 ht9
            have hBw9 := hBV3.kept hg9 (by have := lg.out; omega)
            go_simp
            refine hK.out _ _ ⟨hBw9.cell 0, hBw9.cell 1⟩ (fun hS => ?_)
            clear hK K
            (try simp only [Act.put, List.setIfInBounds_toArray, List.set_cons_zero, List.set_cons_succ])
            clear JV3 hBV3 L8 hg9 ht9
            refine Am.wpAnyM_one (i := 10) (by kernel_rfl) rfl (fun K hK => ?_)
            go_simp
            refine hK.out _ _ ⟨(hBw9.alloc _).cell 0, (hBw9.alloc _).cell 1⟩ (fun hS => ?_)
            clear hK K
            (try simp only [Act.put, List.setIfInBounds_toArray, List.set_cons_zero, List.set_cons_succ])
            have L10 : Bk (w9.alloc (.cells #[.int .i64 m] 3)) w9.heap.size 3 #[.int .i64 m] := Bk.new' rfl
            have Jw10 := Jw9.alloc (.cells #[.int .i64 m] 3)
            have hBw10 := hBw9.alloc (.cells #[.int .i64 m] 3)
            have sw10 := L10.lt
            generalize w9.alloc (.cells #[.int .i64 m] 3) = w10 at Jw10 hBw10 L10 sw10 hS ⊢
            clear Jw9 hBw9
            refine Am.wpAnyM_one (i := 11) (by kernel_rfl) rfl (fun K hK => ?_)
            refine step_append_lies _ (by rfl) (.tmp 54) (.tmp 58) 22 (by rfl) (g + 1) 3 i0 (.int .i64 0) 1 8 Try.underlying22 hi0 hz0 hz1 hz2 rfl (by decide) vW wd.length (wd.map (Value.int .i64)) (by rfl) Jw10.oww ⟨w9.heap.size, 0, none⟩ 1 1 [.int .i64 m] (by rfl) rfl (World.news_of_block L10) (by simp [Value.oneCell']) (by decide) (by simp only [maxLen]; omega) (by omega) (by have := hBw10.lt; omega) _ rfl ?_
            intro g5 cap5 w11 hown5 hgrow5 hat5 hlt5
            have hB11 := hBw10.grown hgrow5 (fun e => by have := (Jw10.oww.lt _ e.symm).1; omega)
            refine hK.out _ _ ⟨hB11.cell 0, hB11.cell 1⟩ (fun hS => ?_)
            clear hK K
            (try simp only [Act.put, List.setIfInBounds_toArray, List.set_cons_zero, List.set_cons_succ])
            have J11 := Jw10.addW (n := m) hgrow5 hown5 hat5
            clear Jw10 hBw10 L10 hown5 hgrow5 hat5 hS
            obtain ⟨⟨x0, x1⟩, xf0, xf1⟩ := bk2 hB11
            (refine Am.wpAnyM_tail (i := 13) (by kernel_rfl) rfl (by rfl) (fun K hK => ?_); go_simp; refine hK.out _ _ ?_; clear hK K; try simp only [Act.put, List.setIfInBounds_toArray, List.set_cons_zero, List.set_cons_succ])
            (refine Am.wpAnyM_tail (i := 14) (by kernel_rfl) rfl (by rfl) (fun K hK => ?_); go_simp; refine hK.out _ _ ?_; clear hK K; try simp only [Act.put, List.setIfInBounds_toArray, List.set_cons_zero, List.set_cons_succ])
            (refine Am.wpAnyM_tail (i := 15) (by kernel_rfl) rfl (by rfl) (fun K hK => ?_); go_simp; refine hK.out _ _ ?_; clear hK K; try simp only [Act.put, List.setIfInBounds_toArray, List.set_cons_zero, List.set_cons_succ])
            refine Am.wpAnyM_done (by kernel_rfl) ?_ _
            clear x0 x1 xf0 xf1
            go_wp2_with fail
            go_roundw
            case rel => exact ⟨j + 1, ks ++ [⟨none, 0, []⟩], wd ++ [m], _, _, by omega, by go_num, by unfold Hid; rw [List.length_append, Hkl.out]; rfl, by unfold Hid; rw [List.length_append, Hwl.out]; rfl, sg_snoc Hsg.out Hwl.out Hkl.out Hkk.out (knd_pick hm), (hB11.set 0 _).set 1 _, (J11.set 0 _).set 1 _⟩
            case measure => simp [intOf]; omega
        · go_simp
          refine hK.out _ _ ⟨(hBV.alloc _).cell 0, (hBV.alloc _).cell 1⟩ (fun hS => ?_)
          clear hK K
          (try simp only [Act.put, List.setIfInBounds_toArray, List.set_cons_zero, List.set_cons_succ])
          have L8 : Bk (V.alloc (.cells #[.int .i64 0, .int .i64 0, .int .i64 0, .int .i64 0, .int .i64 1, .int .i64 2] 3)) V.heap.size 3 #[.int .i64 0, .int .i64 0, .int .i64 0, .int .i64 0, .int .i64 1, .int .i64 2] := Bk.new' rfl
          have JV1 := JV.alloc (.cells #[.int .i64 0, .int .i64 0, .int .i64 0, .int .i64 0, .int .i64 1, .int .i64 2] 3)
          have hBV1 := hBV.alloc (.cells #[.int .i64 0, .int .i64 0, .int .i64 0, .int .i64 0, .int .i64 1, .int .i64 2] 3)
          have hkV1 : OwnK (V.alloc (.cells #[.int .i64 0, .int .i64 0, .int .i64 0, .int .i64 0, .int .i64 1, .int .i64 2] 3)) (g + 1) ⟨none, 0, []⟩ := hkV.alloc _
          have sV1 := L8.lt
          generalize V.alloc (.cells #[.int .i64 0, .int .i64 0, .int .i64 0, .int .i64 0, .int .i64 1, .int .i64 2] 3) = V1 at JV1 hBV1 L8 hkV1 sV1 hS ⊢
          clear JV hBV hkV
          refine Am.wpAnyM_one (i := 3) (by kernel_rfl) rfl (fun K hK => ?_)
          go_simp
          refine hK.out _ _ ⟨(hBV1.alloc _).cell 0, (hBV1.alloc _).cell 1⟩ (fun hS => ?_)
          clear hK K
          (try simp only [Act.put, List.setIfInBounds_toArray, List.set_cons_zero, List.set_cons_succ])
          have L3 : Bk (V1.alloc (.cells #[.slice none 0 0] 22)) V1.heap.size 22 #[.slice none 0 0] := Bk.new' rfl
          have JV2 := JV1.alloc (.cells #[.slice none 0 0] 22)
          have hBV2 := hBV1.alloc (.cells #[.slice none 0 0] 22)
          have hkV2 : OwnK (V1.alloc (.cells #[.slice none 0 0] 22)) (g + 1) ⟨none, 0, []⟩ := hkV1.alloc _
          have L8' := L8.alloc (.cells #[.slice none 0 0] 22)
          have sV2 := L3.lt
          generalize V1.alloc (.cells #[.slice none 0 0] 22) = V2 at JV2 hBV2 L3 hkV2 L8' sV2 hS ⊢
          clear JV1 hBV1 hkV1 L8
          have L8 := L8'
          clear L8'
          refine Am.wpAnyM_one (i := 4) (by kernel_rfl) rfl (fun K hK => ?_)
          refine step_append_lies _ (by rfl) (.tmp 49) (.tmp 51) 29 (by rfl) (g + 1) 22 i1 (.slice none 0 0) 1 24 Try.underlying29 hi1 hy0 hy1 hy2 rfl (by decide) vK ks.length (ks.map kv) (by rfl) JV2.okk ⟨V1.heap.size, 0, none⟩ 1 1 [.slice none 0 0] (by rfl) rfl (World.news_of_block L3) (by simp [Value.oneCell']) (by decide) (by simp only [maxLen]; omega) (by omega) (by have := hBV2.lt; omega) _ rfl ?_
          intro g4 cap4 V3 hown4 hgrow4 hat4 hlt4
          have szV3 := hgrow4.size
          have hBV3 := hBV2.grown hgrow4 (fun e => by have := (hrK.out _ e.symm).1; omega)
          refine hK.out _ _ ⟨hBV3.cell 0, hBV3.cell 1⟩ (fun hS => ?_)
          clear hK K
          (try simp only [Act.put, List.setIfInBounds_toArray, List.set_cons_zero, List.set_cons_succ])
          have JV3 := JV2.addK (k := ⟨none, 0, []⟩) hgrow4 hown4 hat4 hkV2 hkn.out hkd.out
          have L8' := L8.grown hgrow4 (fun e => by have := (hrK.out _ e.symm).2; omega)
          clear JV2 hBV2 hkV2 L3 hown4 hgrow4 hat4 L8
          have L8 := L8'
          clear L8'
          (refine Am.wpAnyM_take (i := 12) (v := ?_) rfl (by kernel_rfl) (by kernel_rfl) (by kernel_rfl) (by kernel_rfl) (by kernel_rfl) (fun _ _ _ h => h) (Or.inl ⟨by rfl, ?_⟩) hS ?_; rotate_left 1; focus (intro w' hSw; (try dsimp only at hSw); go_simp; try (with_reducible rfl)); try simp only [Act.put, List.setIfInBounds_toArray, List.set_cons_zero, List.set_cons_succ])
          refine Am.wpAnyM_one (i := 9) (by kernel_rfl) rfl (fun K hK => ?_)
          go_simp
          refine (pick_any tp [0, 0, 0, 0, 1, 2] (some ⟨V.heap.size, 0, none⟩) 6 _ JV3.ta (by decide) (by decide) (RdI.bk L8 rfl) (Away.some (by show V.heap.size ≠ tp; have := lg.out; omega))).mono ?_
          rintro e w9 ⟨m, hm, rfl, ht9, hg9⟩
          have Jw9 := JV3.turn hg9 ht9
          have hBw9 := hBV3.kept hg9 (by have := lg.out; omega)
          go_simp
          refine hK.out _ _ ⟨hBw9.cell 0, hBw9.cell 1⟩ (fun hS => ?_)
          clear hK K
          (try simp only [Act.put, List.setIfInBounds_toArray, List.set_cons_zero, List.set_cons_succ])
          clear JV3 hBV3 L8 hg9 ht9
          refine Am.wpAnyM_one (i := 10) (by kernel_rfl) rfl (fun K hK => ?_)
          go_simp
          refine hK.out _ _ ⟨(hBw9.alloc _).cell 0, (hBw9.alloc _).cell 1⟩ (fun hS => ?_)
          clear hK K
          (try simp only [Act.put, List.setIfInBounds_toArray, List.set_cons_zero, List.set_cons_succ])
          have L10 : Bk (w9.alloc (.cells #[.int .i64 m] 3)) w9.heap.size 3 #[.int .i64 m] := Bk.new' rfl
          have Jw10 := Jw9.alloc (.cells #[.int .i64 m] 3)
          have hBw10 := hBw9.alloc (.cells #[.int .i64 m] 3)
          have sw10 := L10.lt
          generalize w9.alloc (.cells #[.int .i64 m] 3) = w10 at Jw10 hBw10 L10 sw10 hS ⊢
          clear Jw9 hBw9
          refine Am.wpAnyM_one (i := 11) (by kernel_rfl) rfl (fun K hK => ?_)
          refine step_append_lies _ (by rfl) (.tmp 54) (.tmp 58) 22 (by rfl) (g + 1) 3 i0 (.int .i64 0) 1 8 Try.underlying22 hi0 hz0 hz1 hz2 rfl (by decide) vW wd.length (wd.map (Value.int .i64)) (by rfl) Jw10.oww ⟨w9.heap.size, 0, none⟩ 1 1 [.int .i64 m] (by rfl) rfl (World.news_of_block L10) (by simp [Value.oneCell']) (by decide) (by simp only [maxLen]; omega) (by omega) (by have := hBw10.lt; omega) _ rfl ?_
          intro g5 cap5 w11 hown5 hgrow5 hat5 hlt5
          have hB11 := hBw10.grown hgrow5 (fun e => by have := (Jw10.oww.lt _ e.symm).1; omega)
          refine hK.out _ _ ⟨hB11.cell 0, hB11.cell 1⟩ (fun hS => ?_)
          clear hK K
          (try simp only [Act.put, List.setIfInBounds_toArray, List.set_cons_zero, List.set_cons_succ])
          have J11 := Jw10.addW (n := m) hgrow5 hown5 hat5
          clear Jw10 hBw10 L10 hown5 hgrow5 hat5 hS
          obtain ⟨⟨x0, x1⟩, xf0, xf1⟩ := bk2 hB11
          (refine Am.wpAnyM_tail (i := 13) (by kernel_rfl) rfl (by rfl) (fun K hK => ?_); go_simp; refine hK.out _ _ ?_; clear hK K; try simp only [Act.put, List.setIfInBounds_toArray, List.set_cons_zero, List.set_cons_succ])
          (refine Am.wpAnyM_tail (i := 14) (by kernel_rfl) rfl (by rfl) (fun K hK => ?_); go_simp; refine hK.out _ _ ?_; clear hK K; try simp only [Act.put, List.setIfInBounds_toArray, List.set_cons_zero, List.set_cons_succ])
          (refine Am.wpAnyM_tail (i := 15) (by kernel_rfl) rfl (by rfl) (fun K hK => ?_); go_simp; refine hK.out _ _ ?_; clear hK K; try simp only [Act.put, List.setIfInBounds_toArray, List.set_cons_zero, List.set_cons_succ])
          refine Am.wpAnyM_done (by kernel_rfl) ?_ _
          clear x0 x1 xf0 xf1
          go_wp2_with fail
          go_roundw
          case rel => exact ⟨j + 1, ks ++ [⟨none, 0, []⟩], wd ++ [m], _, _, by omega, by go_num, by unfold Hid; rw [List.length_append, Hkl.out]; rfl, by unfold Hid; rw [List.length_append, Hwl.out]; rfl, sg_snoc Hsg.out Hwl.out Hkl.out Hkk.out (knd_pick hm), (hB11.set 0 _).set 1 _, (J11.set 0 _).set 1 _⟩
          case measure => simp [intOf]; omega
    · have hje : j = p.l.length := by omega
      have hk0 : ks.length = p.l.length := by rw [Hkl.out, hje]
      have hw0 : wd.length = p.l.length := by rw [Hwl.out, hje]
      obtain ⟨K, ck, rfl, -, -⟩ := own_keys J.okk (fun i hi => (J.ok i hi).rd)
      obtain ⟨Wa, cw, rfl, -, -⟩ := own_ints J.oww
      have hl7 : ∀ i, i < ks.length → (gk ks i).l.length ≤ 1000 := fun i hi => by have := (Hsg.out i hi).1.2; omega
      have HL7 := Lib.hid hl7
      have HSV : Hid (SV p ⟨K, ck, ks, Wa, cw, wd⟩) := ⟨hk0, hw0, fun i hi => sv_yes (Hsg.out i (by omega)).1.1 (Hsg.out i (by omega)).2⟩
      have Hk0 := Lib.hid hk0
      have Hw0 := Lib.hid hw0
      clear hl7 hje hk0 hw0
      have HG := Lib.hid hG
      clear hG
      by_cases hn0 : n ≤ 0
      · have zn : decide ((0 : Int) < n) = false := decide_eq_false (by omega)
        obtain ⟨F, FW⟩ := J.fin hB (by omega) (by omega) HL7.out
        have HF := Lib.hid F
        have HFW := Lib.hid FW
        obtain ⟨⟨d0, d1⟩, -⟩ := bk2 hB
        obtain ⟨⟨e0, e1⟩, ef0, ef1⟩ := bk2 J.r1
        have n1 : g ≠ w.heap.size + 1 := by have := HG.out; omega
        have n2 := n1.symm
        have HJ := Lib.hid J
        clear F FW hB J
        go_wp2_with fail
        obtain ⟨t1, t2, t3, t4⟩ := HF.out.ret (.slice K ks.length ck) (.slice Wa wd.length cw)
        refine bodyPost_ret (v := scv ⟨K, ck, ks, Wa, cw, wd⟩) (by simp [results, Try.results14, go_sem, e0, e1]) rfl ⟨_, t1, t2, fun _ => ⟨HSV.out, SW.ret HF.out HFW.out _ _⟩, rfl, t3, t4⟩
      · have zn : decide ((0 : Int) < n) = true := decide_eq_true (by omega)
        go_wp2_with fail
        refine (one_any tp n _ J.ta (by omega) (by omega)).mono ?_
        rintro e w3 ⟨y, rfl, ht3, hg3⟩
        have n1 : g ≠ w.heap.size + 1 := by have := HG.out; omega
        have n2 := n1.symm
        have lt0 : tp < g := by have := HG.out; omega
        have J3 := J.turn hg3 ht3
        have hB3 := hB.kept hg3 (by omega)
        clear J hB hg3 ht3 c2
        cases y
        · obtain ⟨F, -⟩ := J3.fin hB3 (by omega) (by omega) HL7.out
          clear J3 hB3
          have HF := Lib.hid F
          obtain ⟨⟨d0, d1⟩, -⟩ := bk2 F.bk
          obtain ⟨⟨e0, e1⟩, ef0, ef1⟩ := bk2 F.r1
          clear F
          go_wp2_with fail
          obtain ⟨t1, t2, t3, t4⟩ := HF.out.ret (.slice (⟨K, ck, ks, Wa, cw, wd⟩ : Sc).K (⟨K, ck, ks, Wa, cw, wd⟩ : Sc).ks.length (⟨K, ck, ks, Wa, cw, wd⟩ : Sc).ck) (.slice (⟨K, ck, ks, Wa, cw, wd⟩ : Sc).W (⟨K, ck, ks, Wa, cw, wd⟩ : Sc).wd.length (⟨K, ck, ks, Wa, cw, wd⟩ : Sc).cw)
          exact bodyPost_ret (v := scv (⟨K, ck, ks, Wa, cw, wd⟩ : Sc)) (by simp [results, Try.results14, go_sem, e0, e1]) rfl ⟨_, t1, t2, fun h => absurd h (by omega), rfl, t3, t4⟩
        by_cases hk1 : ks.length = 0
        · have zk : decide ((0 : Int) < (ks.length : Int)) = false := decide_eq_false (by omega)
          have zk' : decide (0 < ks.length) = false := decide_eq_false (by omega)
          have zk3 : ¬ 0 < ks.length := by omega
          clear hk1
          obtain ⟨F, -⟩ := J3.fin hB3 (by omega) (by omega) HL7.out
          clear J3 hB3
          have HF := Lib.hid F
          obtain ⟨⟨d0, d1⟩, -⟩ := bk2 F.bk
          obtain ⟨⟨e0, e1⟩, ef0, ef1⟩ := bk2 F.r1
          clear F
          go_wp2_with fail
          obtain ⟨t1, t2, t3, t4⟩ := HF.out.ret (.slice (⟨K, ck, ks, Wa, cw, wd⟩ : Sc).K (⟨K, ck, ks, Wa, cw, wd⟩ : Sc).ks.length (⟨K, ck, ks, Wa, cw, wd⟩ : Sc).ck) (.slice (⟨K, ck, ks, Wa, cw, wd⟩ : Sc).W (⟨K, ck, ks, Wa, cw, wd⟩ : Sc).wd.length (⟨K, ck, ks, Wa, cw, wd⟩ : Sc).cw)
          exact bodyPost_ret (v := scv (⟨K, ck, ks, Wa, cw, wd⟩ : Sc)) (by simp [results, Try.results14, go_sem, e0, e1]) rfl ⟨_, t1, t2, fun h => absurd h (by omega), rfl, t3, t4⟩
        have zk : decide ((0 : Int) < (ks.length : Int)) = true := decide_eq_true (by omega)
        have zk' : decide (0 < ks.length) = true := decide_eq_true (by omega)
        have zk2 : 0 < ks.length := by omega
        have hwk : wd.length = ks.length := by rw [Hw0.out, Hk0.out]
        have zw2 : 0 < wd.length := by omega
        have Hwk := Lib.hid hwk
        clear hk1 hwk
        obtain ⟨⟨d0, d1⟩, -⟩ := bk2 hB3
        have gl := hB3.lt
        go_upto_if 74 with fail
        go_cut [] (fun wx => ∃ s : Sc, SF w g tp wx s)
        case first =>
          go_wp2_with fail
          refine (next_any tp 3 _ J3.ta (by omega) (by omega)).mono ?_
          rintro e w4 ⟨z, hz, rfl, ht4, hg4⟩
          have J4 := J3.turn hg4 ht4
          have hB4 := hB3.kept hg4 (by omega)
          clear J3 hB3 hg4 ht4 d0 d1
          obtain ⟨⟨d0, d1⟩, -⟩ := bk2 hB4
          have gl4 := hB4.lt
          have hz8 : z = 0 ∨ z = 1 ∨ z = 2 := by omega
          clear hz
          rcases hz8 with rfl | rfl | rfl
          · obtain ⟨gW, cW, hvW, -, -⟩ := J4.oww.form (by omega)
            obtain ⟨rfl, rfl⟩ : Wa = some ⟨gW, 0, none⟩ ∧ cw = cW := by injection hvW with h1 h2 h3; exact ⟨h1, h3⟩
            clear hvW
            go_upto_region 17 with fail
            have JV := J4.drew
            have hBV : Bk w4.drew g 31 #[.slice K ks.length ck, .slice (some ⟨gW, 0, none⟩) wd.length cw] := hB4
            refine Am.wp_region_M (S := fun w' => w'.cell? ⟨g, 1, none⟩ = some (.slice (some ⟨gW, 0, none⟩) wd.length cw)) [11] (by kernel_rfl) (hBV.cell 1) (fun hS => ?_)
            generalize w4.drew = V at JV hBV hS ⊢
            clear J4 hB4 d0 d1
            have lV := hBV.lt
            change Am.wpAnyM _ _ _ _ _ _ 12 _ _ _
            (refine Am.wpAnyM_take (i := 0) (v := ?_) rfl (by kernel_rfl) (by kernel_rfl) (by kernel_rfl) (by kernel_rfl) (by kernel_rfl) (fun _ _ _ h => h) (Or.inl ⟨by rfl, ?_⟩) hS ?_; rotate_left 1; focus (intro w' hSw; (try dsimp only at hSw); go_simp; try (with_reducible rfl)); try simp only [Act.put, List.setIfInBounds_toArray, List.set_cons_zero, List.set_cons_succ])
            (refine Am.wpAnyM_take (i := 1) (v := ?_) rfl (by kernel_rfl) (by kernel_rfl) (by kernel_rfl) (by kernel_rfl) (by kernel_rfl) (fun _ _ _ h => h) (Or.inl ⟨by rfl, ?_⟩) hS ?_; rotate_left 1; focus (intro w' hSw; (try dsimp only at hSw); go_simp; try (with_reducible rfl)); try simp only [Act.put, List.setIfInBounds_toArray, List.set_cons_zero, List.set_cons_succ])
            (refine Am.wpAnyM_take (i := 2) (v := ?_) rfl (by kernel_rfl) (by kernel_rfl) (by kernel_rfl) (by kernel_rfl) (by kernel_rfl) (fun _ _ _ h => h) (Or.inl ⟨by rfl, ?_⟩) hS ?_; rotate_left 1; focus (intro w' hSw; (try dsimp only at hSw); go_simp; try (with_reducible rfl)); try simp only [Act.put, List.setIfInBounds_toArray, List.set_cons_zero, List.set_cons_succ])
            (refine Am.wpAnyM_take (i := 3) (v := ?_) rfl (by kernel_rfl) (by kernel_rfl) (by kernel_rfl) (by kernel_rfl) (by kernel_rfl) (fun _ _ _ h => h) (Or.inl ⟨by rfl, ?_⟩) hS ?_; rotate_left 1; focus (intro w' hSw; (try dsimp only at hSw); go_simp; try (with_reducible rfl)); try simp only [Act.put, List.setIfInBounds_toArray, List.set_cons_zero, List.set_cons_succ])
            (refine Am.wpAnyM_take (i := 4) (v := ?_) rfl (by kernel_rfl) (by kernel_rfl) (by kernel_rfl) (by kernel_rfl) (by kernel_rfl) (fun _ _ _ h => h) (Or.inl ⟨by rfl, ?_⟩) hS ?_; rotate_left 1; focus (intro w' hSw; (try dsimp only at hSw); go_simp; try (with_reducible rfl)); try simp only [Act.put, List.setIfInBounds_toArray, List.set_cons_zero, List.set_cons_succ])
            (refine Am.wpAnyM_take (i := 5) (v := ?_) rfl (by kernel_rfl) (by kernel_rfl) (by kernel_rfl) (by kernel_rfl) (by kernel_rfl) (fun _ _ _ h => h) (Or.inl ⟨by rfl, ?_⟩) hS ?_; rotate_left 1; focus (intro w' hSw; (try dsimp only at hSw); go_simp; try (with_reducible rfl)); try simp only [Act.put, List.setIfInBounds_toArray, List.set_cons_zero, List.set_cons_succ])
            (refine Am.wpAnyM_take (i := 7) (v := ?_) rfl (by kernel_rfl) (by kernel_rfl) (by kernel_rfl) (by kernel_rfl) (by kernel_rfl) (fun _ _ _ h => h) (Or.inl ⟨by rfl, ?_⟩) hS ?_; rotate_left 1; focus (intro w' hSw; (try dsimp only at hSw); go_simp; try (with_reducible rfl)); try simp only [Act.put, List.setIfInBounds_toArray, List.set_cons_zero, List.set_cons_succ])
            refine wpAnyM_two (i := 6) (j := 8) (by kernel_rfl) rfl rfl (fun K hK => ?_) (fun K hK => ?_)
            · go_simp
              refine (next_any tp (wd.length : Int) _ JV.ta (by omega) (by omega)).mono ?_
              rintro e V1 ⟨m0, hm0, rfl, ht5, hg5⟩
              have JV1 := JV.turn hg5 ht5
              have hBV1 := hBV.kept hg5 (by omega)
              obtain ⟨m, rfl⟩ := Int.eq_ofNat_of_zero_le hm0.1
              have hm1 : m < wd.length := by omega
              have sz5 := hg5.size
              go_simp
              refine hK.out _ _ (hBV1.cell 1) (fun hS => ?_)
              clear hK K
              (try simp only [Act.put, List.setIfInBounds_toArray, List.set_cons_zero, List.set_cons_succ])
              clear JV hBV hg5 ht5 hm0
              refine Am.wpAnyM_one (i := 8) (by kernel_rfl) rfl (fun K hK => ?_)
              go_simp
              refine hK.out _ _ ((hBV1.alloc _).cell 1) (fun hS => ?_)
              clear hK K
              (try simp only [Act.put, List.setIfInBounds_toArray, List.set_cons_zero, List.set_cons_succ])
              have L8 : Bk (V1.alloc (.cells #[.int .i64 (-1), .int .i64 3] 3)) V1.heap.size 3 #[.int .i64 (-1), .int .i64 3] := Bk.new' rfl
              have JV2 := JV1.alloc (.cells #[.int .i64 (-1), .int .i64 3] 3)
              have hBV2 := hBV1.alloc (.cells #[.int .i64 (-1), .int .i64 3] 3)
              generalize V1.alloc (.cells #[.int .i64 (-1), .int .i64 3] 3) = V2 at JV2 hBV2 L8 hS ⊢
              clear JV1 hBV1
              have sl8 := L8.lt
              refine Am.wpAnyM_one (i := 9) (by kernel_rfl) rfl (fun K hK => ?_)
              go_simp
              refine (pick_any tp [-1, 3] (some ⟨V1.heap.size, 0, none⟩) 2 _ JV2.ta (by decide) (by decide) (RdI.bk L8 rfl) (Away.some (by show V1.heap.size ≠ tp; omega))).mono ?_
              rintro e w7 ⟨x, hx, rfl, ht7, hg7⟩
              have J7 := JV2.turn hg7 ht7
              have hB7 := hBV2.kept hg7 (by omega)
              go_simp
              refine hK.out _ _ (hB7.cell 1) (fun hS => ?_)
              clear hK K
              (try simp only [Act.put, List.setIfInBounds_toArray, List.set_cons_zero, List.set_cons_succ])
              clear JV2 hBV2 L8 hg7 ht7
              obtain ⟨F, FW⟩ := J7.fin hB7 (by omega) (by omega) HL7.out
              have HF := Lib.hid (F.setW FW m hm1 x)
              have xc : w7.cell? ⟨gW, m, none⟩ = some (.int .i64 (gi wd m)) := by rw [J7.oww.cellAt m (by omega), List.getElem?_map, gi_lt wd m hm1]; rfl
              have xf : w7.frozen? ⟨gW, m, none⟩ = false := FW.1 _ rfl m
              have q0 : (0 : Int) ≤ m := by omega
              have q1 : (m : Int) < wd.length := by omega
              clear F FW J7 hB7
              (refine Am.wpAnyM_take (i := 10) (v := ?_) rfl (by kernel_rfl) (by kernel_rfl) (by kernel_rfl) (by kernel_rfl) (by kernel_rfl) (fun _ _ _ h => h) (Or.inl ⟨by rfl, ?_⟩) hS ?_; rotate_left 1; focus (intro w' hSw; (try dsimp only at hSw); go_simp; try (with_reducible rfl)); try simp only [Act.put, List.setIfInBounds_toArray, List.set_cons_zero, List.set_cons_succ])
              (refine Am.wpAnyM_tail (i := 11) (by kernel_rfl) rfl (by rfl) (fun K hK => ?_); go_simp; refine hK.out _ _ ?_; clear hK K; try simp only [Act.put, List.setIfInBounds_toArray, List.set_cons_zero, List.set_cons_succ])
              refine Am.wpAnyM_done (by kernel_rfl) ?_ _
              go_wp2_with fail
              go_meet
              exact ⟨_, HF.out⟩
            · go_simp
              refine hK.out _ _ ((hBV.alloc _).cell 1) (fun hS => ?_)
              clear hK K
              (try simp only [Act.put, List.setIfInBounds_toArray, List.set_cons_zero, List.set_cons_succ])
              have L8 : Bk (V.alloc (.cells #[.int .i64 (-1), .int .i64 3] 3)) V.heap.size 3 #[.int .i64 (-1), .int .i64 3] := Bk.new' rfl
              have JV1 := JV.alloc (.cells #[.int .i64 (-1), .int .i64 3] 3)
              have hBV1 := hBV.alloc (.cells #[.int .i64 (-1), .int .i64 3] 3)
              generalize V.alloc (.cells #[.int .i64 (-1), .int .i64 3] 3) = V1 at JV1 hBV1 L8 hS ⊢
              clear JV hBV
              have sl8 := L8.lt
              refine Am.wpAnyM_one (i := 6) (by kernel_rfl) rfl (fun K hK => ?_)
              go_simp
              refine (next_any tp (wd.length : Int) _ JV1.ta (by omega) (by omega)).mono ?_
              rintro e V2 ⟨m0, hm0, rfl, ht5, hg5⟩
              have JV2 := JV1.turn hg5 ht5
              have hBV2 := hBV1.kept hg5 (by omega)
              have L8' := L8.kept hg5 (by omega)
              obtain ⟨m, rfl⟩ := Int.eq_ofNat_of_zero_le hm0.1
              have hm1 : m < wd.length := by omega
              have sz5 := hg5.size
              go_simp
              refine hK.out _ _ (hBV2.cell 1) (fun hS => ?_)
              clear hK K
              (try simp only [Act.put, List.setIfInBounds_toArray, List.set_cons_zero, List.set_cons_succ])
              clear JV1 hBV1 hg5 ht5 hm0 L8
              have L8 := L8'
              clear L8'
              refine Am.wpAnyM_one (i := 9) (by kernel_rfl) rfl (fun K hK => ?_)
              go_simp
              refine (pick_any tp [-1, 3] (some ⟨V.heap.size, 0, none⟩) 2 _ JV2.ta (by decide) (by decide) (RdI.bk L8 rfl) (Away.some (by show V.heap.size ≠ tp; omega))).mono ?_
              rintro e w7 ⟨x, hx, rfl, ht7, hg7⟩
              have J7 := JV2.turn hg7 ht7
              have hB7 := hBV2.kept hg7 (by omega)
              go_simp
              refine hK.out _ _ (hB7.cell 1) (fun hS => ?_)
              clear hK K
              (try simp only [Act.put, List.setIfInBounds_toArray, List.set_cons_zero, List.set_cons_succ])
              clear JV2 hBV2 L8 hg7 ht7
              obtain ⟨F, FW⟩ := J7.fin hB7 (by omega) (by omega) HL7.out
              have HF := Lib.hid (F.setW FW m hm1 x)
              have xc : w7.cell? ⟨gW, m, none⟩ = some (.int .i64 (gi wd m)) := by rw [J7.oww.cellAt m (by omega), List.getElem?_map, gi_lt wd m hm1]; rfl
              have xf : w7.frozen? ⟨gW, m, none⟩ = false := FW.1 _ rfl m
              have q0 : (0 : Int) ≤ m := by omega
              have q1 : (m : Int) < wd.length := by omega
              clear F FW J7 hB7
              (refine Am.wpAnyM_take (i := 10) (v := ?_) rfl (by kernel_rfl) (by kernel_rfl) (by kernel_rfl) (by kernel_rfl) (by kernel_rfl) (fun _ _ _ h => h) (Or.inl ⟨by rfl, ?_⟩) hS ?_; rotate_left 1; focus (intro w' hSw; (try dsimp only at hSw); go_simp; try (with_reducible rfl)); try simp only [Act.put, List.setIfInBounds_toArray, List.set_cons_zero, List.set_cons_succ])
              (refine Am.wpAnyM_tail (i := 11) (by kernel_rfl) rfl (by rfl) (fun K hK => ?_); go_simp; refine hK.out _ _ ?_; clear hK K; try simp only [Act.put, List.setIfInBounds_toArray, List.set_cons_zero, List.set_cons_succ])
              refine Am.wpAnyM_done (by kernel_rfl) ?_ _
              go_wp2_with fail
              go_meet
              exact ⟨_, HF.out⟩
          · go_wp2_with fail
            refine (next_any tp (ks.length : Int) _ J4.ta (by omega) (by omega)).mono ?_
            rintro e w5 ⟨m0, hm0, rfl, ht5, hg5⟩
            have J5 := J4.turn hg5 ht5
            have hB5 := hB4.kept hg5 (by omega)
            obtain ⟨m, rfl⟩ := Int.eq_ofNat_of_zero_le hm0.1
            have hm1 : m < ks.length := by omega
            have q0 : (0 : Int) ≤ m := by omega
            have q1 : (m : Int) < ks.length := by omega
            clear J4 hB4 hg5 ht5 hm0 d0 d1
            obtain ⟨gK, cK, hvK, -, -⟩ := J5.okk.form (by omega)
            obtain ⟨rfl, rfl⟩ : K = some ⟨gK, 0, none⟩ ∧ ck = cK := by injection hvK with h1 h2 h3; exact ⟨h1, h3⟩
            clear hvK
            go_upto_region 20 with fail
            have JV := J5.drew
            have hBV : Bk w5.drew g 31 #[.slice (some ⟨gK, 0, none⟩) ks.length ck, .slice Wa wd.length cw] := hB5
            have kcl : ∀ W : World, W.ownsRow (g + 1) 22 1 (.slice (some ⟨gK, 0, none⟩) ks.length ck) ks.length (ks.map kv) → W.cell? ⟨gK, m, none⟩ = some (.slice (gk ks m).A (gk ks m).l.length (gk ks m).c) := fun W h => by rw [h.cellAt m (by omega), List.getElem?_map, gk_lt ks m hm1]; rfl
            have Hkcl := Lib.hid kcl
            clear kcl
            refine Am.wp_region_M (S := fun w' => w'.cell? ⟨g, 0, none⟩ = some (.slice (some ⟨gK, 0, none⟩) ks.length ck) ∧ w'.cell? ⟨gK, m, none⟩ = some (.slice (gk ks m).A (gk ks m).l.length (gk ks m).c)) [13] (by kernel_rfl) ⟨hBV.cell 0, Hkcl.out _ JV.okk⟩ (fun hS => ?_)
            generalize w5.drew = V at JV hBV hS ⊢
            clear J5 hB5
            have lV := hBV.lt
            change Am.wpAnyM _ _ _ _ _ _ 14 _ _ _
            (refine Am.wpAnyM_take (i := 0) (v := ?_) rfl (by kernel_rfl) (by kernel_rfl) (by kernel_rfl) (by kernel_rfl) (by kernel_rfl) (fun _ _ _ h => h) (Or.inl ⟨by rfl, ?_⟩) hS ?_; rotate_left 1; focus (intro w' hSw; (try dsimp only at hSw); go_simp; try (with_reducible rfl)); try simp only [Act.put, List.setIfInBounds_toArray, List.set_cons_zero, List.set_cons_succ])
            (refine Am.wpAnyM_take (i := 1) (v := ?_) rfl (by kernel_rfl) (by kernel_rfl) (by kernel_rfl) (by kernel_rfl) (by kernel_rfl) (fun _ _ _ h => h) (Or.inl ⟨by rfl, ?_⟩) hS ?_; rotate_left 1; focus (intro w' hSw; (try dsimp only at hSw); go_simp; try (with_reducible rfl)); try simp only [Act.put, List.setIfInBounds_toArray, List.set_cons_zero, List.set_cons_succ])
            (refine Am.wpAnyM_take (i := 2) (v := ?_) rfl (by kernel_rfl) (by kernel_rfl) (by kernel_rfl) (by kernel_rfl) (by kernel_rfl) (fun _ _ _ h => h) (Or.inl ⟨by rfl, ?_⟩) hS ?_; rotate_left 1; focus (intro w' hSw; (try dsimp only at hSw); go_simp; try (with_reducible rfl)); try simp only [Act.put, List.setIfInBounds_toArray, List.set_cons_zero, List.set_cons_succ])
            (refine Am.wpAnyM_take (i := 3) (v := ?_) rfl (by kernel_rfl) (by kernel_rfl) (by kernel_rfl) (by kernel_rfl) (by kernel_rfl) (fun _ _ _ h => h) (Or.inl ⟨by rfl, ?_⟩) hS ?_; rotate_left 1; focus (intro w' hSw; (try dsimp only at hSw); go_simp; try (with_reducible rfl)); try simp only [Act.put, List.setIfInBounds_toArray, List.set_cons_zero, List.set_cons_succ])
            (refine Am.wpAnyM_take (i := 4) (v := ?_) rfl (by kernel_rfl) (by kernel_rfl) (by kernel_rfl) (by kernel_rfl) (by kernel_rfl) (fun _ _ _ h => h) (Or.inl ⟨by rfl, ?_⟩) hS ?_; rotate_left 1; focus (intro w' hSw; (try dsimp only at hSw); go_simp; try (with_reducible rfl)); try simp only [Act.put, List.setIfInBounds_toArray, List.set_cons_zero, List.set_cons_succ])
            (refine Am.wpAnyM_take (i := 5) (v := ?_) rfl (by kernel_rfl) (by kernel_rfl) (by kernel_rfl) (by kernel_rfl) (by kernel_rfl) (fun _ _ _ h => h) (Or.inl ⟨by rfl, ?_⟩) hS ?_; rotate_left 1; focus (intro w' hSw; (try dsimp only at hSw); go_simp; try (with_reducible rfl)); try simp only [Act.put, List.setIfInBounds_toArray, List.set_cons_zero, List.set_cons_succ])
            (refine Am.wpAnyM_take (i := 6) (v := ?_) rfl (by kernel_rfl) (by kernel_rfl) (by kernel_rfl) (by kernel_rfl) (by kernel_rfl) (fun _ _ _ h => h) (Or.inl ⟨by rfl, ?_⟩) hS ?_; rotate_left 1; focus (intro w' hSw; (try dsimp only at hSw); go_simp; try (with_reducible rfl)); try simp only [Act.put, List.setIfInBounds_toArray, List.set_cons_zero, List.set_cons_succ])
            (refine Am.wpAnyM_take (i := 7) (v := ?_) rfl (by kernel_rfl) (by kernel_rfl) (by kernel_rfl) (by kernel_rfl) (by kernel_rfl) (fun _ _ _ h => h) (Or.inl ⟨by rfl, ?_⟩) hS ?_; rotate_left 1; focus (intro w' hSw; (try dsimp only at hSw); go_simp; try (with_reducible rfl)); try simp only [Act.put, List.setIfInBounds_toArray, List.set_cons_zero, List.set_cons_succ])
            (refine Am.wpAnyM_take (i := 8) (v := ?_) rfl (by kernel_rfl) (by kernel_rfl) (by kernel_rfl) (by kernel_rfl) (by kernel_rfl) (fun _ _ _ h => h) (Or.inl ⟨by rfl, ?_⟩) hS ?_; rotate_left 1; focus (intro w' hSw; (try dsimp only at hSw); go_simp; try (with_reducible rfl)); try simp only [Act.put, List.setIfInBounds_toArray, List.set_cons_zero, List.set_cons_succ])
            refine Am.wpAnyM_one (i := 9) (by kernel_rfl) rfl (fun K hK => ?_)
            go_simp
            refine (range_any tp (-1) 5 _ JV.ta (by omega) (by omega) (by omega)).mono ?_
            rintro e w7 ⟨x, hx, rfl, ht7, hg7⟩
            have J7 := JV.turn hg7 ht7
            have hB7 := hBV.kept hg7 (by omega)
            go_simp
            refine hK.out _ _ ⟨hB7.cell 0, Hkcl.out _ J7.okk⟩ (fun hS => ?_)
            clear hK K
            (try simp only [Act.put, List.setIfInBounds_toArray, List.set_cons_zero, List.set_cons_succ])
            clear JV hBV hg7 ht7 hx
            refine Am.wpAnyM_one (i := 10) (by kernel_rfl) rfl (fun K hK => ?_)
            go_simp
            refine hK.out _ _ ⟨(hB7.alloc _).cell 0, Hkcl.out _ (J7.alloc _).okk⟩ (fun hS => ?_)
            clear hK K
            (try simp only [Act.put, List.setIfInBounds_toArray, List.set_cons_zero, List.set_cons_succ])
            have L8 : Bk (w7.alloc (.cells #[.int .i64 x] 3)) w7.heap.size 3 #[.int .i64 x] := Bk.new' rfl
            have J8 := J7.alloc (.cells #[.int .i64 x] 3)
            have hB8 := hB7.alloc (.cells #[.int .i64 x] 3)
            generalize w7.alloc (.cells #[.int .i64 x] 3) = V8 at J8 hB8 L8 hS ⊢
            clear J7 hB7
            have hl7 := (Hsg.out m hm1).1.2
            refine Am.wpAnyM_one (i := 11) (by kernel_rfl) rfl (fun K hK => ?_)
            refine step_append_lies _ (by rfl) (.tmp 108) (.tmp 111) 22 (by rfl) (g + 1) 3 i0 (.int .i64 0) 1 8 Try.underlying22 hi0 hz0 hz1 hz2 rfl (by decide) (kv (gk ks m)) (gk ks m).l.length ((gk ks m).l.map (Value.int .i64)) (by rfl) (J8.ok m hm1) ⟨w7.heap.size, 0, none⟩ 1 1 [.int .i64 x] (by rfl) rfl (World.news_of_block L8) (by simp [Value.oneCell']) (by decide) (by simp only [maxLen]; omega) (by omega) (by have := hB8.lt; omega) _ rfl ?_
            intro g5 cap5 w11 hown5 hgrow5 hat5 hlt5
            have rowg : ∀ q, (kv (gk ks m)).ownBlock = some q → g + 1 ≤ q ∧ q ≠ gK := fun q hq => by
              obtain ⟨a, ha, hq'⟩ := own_blk hq
              subst hq'
              exact ⟨((J8.ok m hm1).lt a ha).1, fun e => (J8.nk m hm1 a ha).1 (by rw [e]; rfl)⟩
            have hB11 := hB8.grown hgrow5 (fun e => by have := (rowg _ e.symm).1; omega)
            have okk11 := J8.okk.kept hgrow5 (own_ne J8.okk (J8.ok m hm1) (by decide))
            refine hK.out _ _ ⟨hB11.cell 0, Hkcl.out _ okk11⟩ (fun hS => ?_)
            clear hK K
            (try simp only [Act.put, List.setIfInBounds_toArray, List.set_cons_zero, List.set_cons_succ])
            have HF := Lib.hid (J8.setK hB8 (by omega) (by omega) (fun i hi => by have := (Hsg.out i hi).1.2; omega) hm1 hgrow5 hown5 hat5)
            have xc := Hkcl.out _ okk11
            have xf : w11.frozen? ⟨gK, m, none⟩ = false := own_frozen okk11 _ rfl m
            clear J8 hB8 L8 hown5 hgrow5 hat5 hB11 okk11 rowg
            (refine Am.wpAnyM_take (i := 12) (v := ?_) rfl (by kernel_rfl) (by kernel_rfl) (by kernel_rfl) (by kernel_rfl) (by kernel_rfl) (fun _ _ _ h => h) (Or.inl ⟨by rfl, ?_⟩) hS ?_; rotate_left 1; focus (intro w' hSw; (try dsimp only at hSw); go_simp; try (with_reducible rfl)); try simp only [Act.put, List.setIfInBounds_toArray, List.set_cons_zero, List.set_cons_succ])
            (refine Am.wpAnyM_tail (i := 13) (by kernel_rfl) rfl (by rfl) (fun K hK => ?_); go_simp; refine hK.out _ _ ?_; clear hK K; try simp only [Act.put, List.setIfInBounds_toArray, List.set_cons_zero, List.set_cons_succ])
            refine Am.wpAnyM_done (by kernel_rfl) ?_ _
            go_wp2_with fail
            go_meet
            exact ⟨_, HF.out⟩
          · obtain ⟨gK, cK, hvK, -, -⟩ := J4.okk.form (by omega)
            obtain ⟨rfl, rfl⟩ : K = some ⟨gK, 0, none⟩ ∧ ck = cK := by injection hvK with h1 h2 h3; exact ⟨h1, h3⟩
            clear hvK
            have hcap : ks.length ≤ ck := by
              rcases J4.okk.2 with ⟨e, _⟩ | ⟨_, _, _, e, _, _, h1, _⟩
              · cases e
              · cases e; exact h1
            have hcap1 : (1 : Int) ≤ ks.length := by omega
            obtain ⟨F, -⟩ := J4.fin hB4 (by omega) (by omega) HL7.out
            have HF := Lib.hid F.tail
            have HF0 := Lib.hid (fun h1 : ks.length ≤ 1 => F.tail0 h1)
            obtain ⟨⟨d0, d1⟩, df0, df1⟩ := bk2 hB4
            clear F J4 hB4
            go_wp2_with fail
            all_goals (go_meet; first | exact ⟨_, HF.out⟩ | exact ⟨_, HF0.out (by omega)⟩)
        case rest =>
          clear J3 hB3 d0 d1
          obtain ⟨s, F⟩ := hcut
          have HF := Lib.hid F
          obtain ⟨⟨d0, d1⟩, -⟩ := bk2 F.bk
          obtain ⟨⟨e0, e1⟩, ef0, ef1⟩ := bk2 F.r1
          clear F
          go_wp2_with fail
          obtain ⟨t1, t2, t3, t4⟩ := HF.out.ret (.slice (s).K (s).ks.length (s).ck) (.slice (s).W (s).wd.length (s).cw)
          exact bodyPost_ret (v := scv (s)) (by simp [results, Try.results14, go_sem, e0, e1]) rfl ⟨_, t1, t2, fun h => absurd h (by omega), rfl, t3, t4⟩
end Go.Proofs.Ytokddjohdodkmaa.Tm
