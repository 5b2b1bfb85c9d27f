/- Walks: Withdraw of the program. -/
import Derived.Test.YtokddjohdodkmaaHI
import Derived.Deep.DeepCutAuto
import Derived.Deep.RegionLaw
import Derived.Deep.AppendLies
import Derived.WalkKit
import Derived.WalkSpells
import Derived.WalkLawsBesides
import Derived.Deep.QuietTactic
import Derived.BigQuiet
import Derived.Deep.Draws
import Derived.Deep.AppendLies
import Derived.Laws.OwnMore
import Derived.Laws.BytesArg
import Derived.Lib.Hide
import Derived.Deep.LoopGhost
import Derived.Deep.CutBlock
import Derived.Laws.MakeOwn
import Derived.RegionTactic
namespace Go.Proofs.Ytokddjohdodkmaa.Tm
open Go.RowKit Go.Proofs.Ytokddjohdodkmaa.Mw
open Go.Proofs.Ytokddjohdodkmaa.Mm (RC)
set_option linter.unusedVariables false
set_option linter.unusedSimpArgs false

theorem rdi_grown {w w' : World} {row : Option Nat} {A : Option Addr} {l : List Int} (h : RdI w .i64 A l) (hg : w.grownBy w' row) (hA : ∀ a, A = some a → row ≠ some a.block) : RdI w' .i64 A l := fun i hi => by
  obtain ⟨b, off, e, hlt, hc⟩ := h i hi
  exact ⟨b, off, e, Nat.lt_of_lt_of_le hlt hg.size, (World.cell?_of_block (a := ⟨b, off + i, none⟩) (hg.block b hlt (fun e' => hA _ e e'.symm))).trans hc⟩
theorem one_cell (W : World) (a : Value) (T : TypeId) (g : Nat) (hg : g = W.heap.size) : ∀ j u, [a][j]? = some u → (W.alloc (.cells #[a] T)).cell? ((⟨g, 0, none⟩ : Addr).add j) = some u := by
  subst hg
  intro j u hu
  match j, hu with
  | 0, hu => cases hu; simp [Addr.add, World.cell?_alloc_at]
  | j + 1, hu => simp at hu
theorem KI.add {w w' : World} {g : Nat} {u vK : Value} {ks : List Ky} {k : Ky} {g4 cap : Nat} (h : KI w g u vK ks) (hg : w.grownBy w' vK.ownBlock) (ho : w'.ownsRow (g + 1) 22 1 (.slice (some ⟨g4, 0, none⟩) (ks.length + 1) cap) (ks.length + 1) (ks.map kv ++ [kv k])) (hat : vK.ownBlock = some g4 ∨ g4 = w.heap.size)
    (hk : RdI w .i64 k.A k.l) (hka : ∀ a, k.A = some a → g < a.block ∧ a.block < w.heap.size ∧ vK.ownBlock ≠ some a.block) : KI (w'.setCell ⟨g, 0, none⟩ (.slice (some ⟨g4, 0, none⟩) (ks.length + 1) cap)) g u (.slice (some ⟨g4, 0, none⟩) (ks.length + 1) cap) (ks ++ [k]) := by
  have hrow : ∀ q, vK.ownBlock = some q → g < q := fun q hq => (h.own.lt q hq).1
  have hw := hg.size
  have far : ∀ (A : Option Addr) (l : List Int), RdI w .i64 A l → (∀ a, A = some a → g < a.block ∧ vK.ownBlock ≠ some a.block) → RdI (w'.setCell ⟨g, 0, none⟩ (.slice (some ⟨g4, 0, none⟩) (ks.length + 1) cap)) .i64 A l := fun A l hr ha =>
    (rdi_grown hr hg (fun a e => (ha a e).2)).far (p := ⟨g, 0, none⟩) (fun a e => by have := (ha a e).1; show a.block ≠ g; omega) _
  refine ⟨(h.bk.grown hg (fun e => by have := hrow g e.symm; omega)).set 0 _, ?_, ?_, ?_⟩
  · rw [List.map_append, List.length_append]
    exact own_set ho (by show g < g + 1; omega) _
  · intro i hi
    by_cases hlt : i < ks.length
    · rw [gk_left ks [k] i hlt]
      exact far _ _ (h.rd i hlt) (fun a ha => ⟨(h.ne i hlt a ha).1, (h.ne i hlt a ha).2.2⟩)
    · have : i = ks.length := by simp at hi; omega
      subst this
      rw [gk_snoc]
      exact far _ _ hk (fun a ha => ⟨(hka a ha).1, (hka a ha).2.2⟩)
  · have key : ∀ a : Addr, g < a.block → a.block < w.heap.size → vK.ownBlock ≠ some a.block → g < a.block ∧ a.block < (w'.setCell ⟨g, 0, none⟩ (.slice (some ⟨g4, 0, none⟩) (ks.length + 1) cap)).heap.size ∧ (Value.slice (some ⟨g4, 0, none⟩) (ks.length + 1) cap).ownBlock ≠ some a.block := fun a h1 h2 h3 => by
      refine ⟨h1, by simp [World.setCell]; omega, fun e => ?_⟩
      have e' : g4 = a.block := by simpa [Value.ownBlock] using e
      rcases hat with hq | hq
      · exact h3 (by rw [hq, e'])
      · omega
    intro i hi a ha
    by_cases hlt : i < ks.length
    · rw [gk_left ks [k] i hlt] at ha
      obtain ⟨n1, n2, n3⟩ := h.ne i hlt a ha
      exact key a n1 n2 n3
    · have : i = ks.length := by simp at hi; omega
      subst this
      rw [gk_snoc] at ha
      obtain ⟨n1, n2, n3⟩ := hka a ha
      exact key a n1 n2 n3
theorem kls_snoc {ks : List Ky} {l : List (List Int)} {k : Ky} {n : Nat} (h : kls ks = l.take n) (hn : l[n]? = some k.l) : kls (ks ++ [k]) = l.take (n + 1) := by
  unfold kls at h ⊢
  rw [List.map_append, h, List.take_add_one, hn]
  rfl
theorem kls_get (ks : List Ky) (i : Nat) (h : i < ks.length) : (kls ks)[i]? = some (gk ks i).l := by unfold kls; rw [List.getElem?_map, gk_lt ks i h]; rfl
/-- The lists of the scheme that Withdraw returns. -/
def wks (p : Pa) (s : Sc) (part kind : Int) : List (List Int) := if wde p s part kind = 0 then kls s.ks else []
def wwd (p : Pa) (s : Sc) (part kind : Int) : List Int := if wde p s part kind = 0 then s.wd.set part.toNat kind else []
theorem wde_1 {p : Pa} {s : Sc} {part kind : Int} (h : sval p s = false) : wde p s part kind = 1 := by unfold wde; rw [if_neg (by simp [h])]
theorem wde_4 {p : Pa} {s : Sc} {part kind : Int} (h : sval p s = true) (h2 : ¬ (0 ≤ part ∧ part < p.l.length)) : wde p s part kind = 4 := by unfold wde; rw [if_pos h, if_neg h2]
theorem wde_2 {p : Pa} {s : Sc} {part kind : Int} (h : sval p s = true) (h2 : 0 ≤ part ∧ part < p.l.length) (h3 : knd kind = false) : wde p s part kind = 2 := by unfold wde; rw [if_pos h, if_pos h2, if_neg (by simp [h3])]
theorem wde_0 {p : Pa} {s : Sc} {part kind : Int} (h : sval p s = true) (h2 : 0 ≤ part ∧ part < p.l.length) (h3 : knd kind = true) : wde p s part kind = 0 := by unfold wde; rw [if_pos h, if_pos h2, if_pos h3]
/-- The ending is a scheme with these lists, and an error. -/
def RetSE (p : Pa) (s : Sc) (part kind : Int) (w : World) (e : Ending) (w' : World) : Prop := ∃ s' : Sc, e = .returned (.tuple #[scv s', .int .i64 (wde p s part kind)]) ∧ ScOk w' s' ∧ kls s'.ks = wks p s part kind ∧ s'.wd = wwd p s part kind ∧ Below w.heap.size w w'
def sc0 : Sc := ⟨none, 0, [], none, 0, []⟩
theorem sc0_ok (w : World) : ScOk w sc0 := ⟨RdK.nil _ _, RdI.nil _ _ _, by simp [sc0], by simp [sc0], fun i hi => absurd hi (by simp [sc0])⟩
theorem ret_sc0 {p : Pa} {s : Sc} {part kind n : Int} {w w' : World} (h : wde p s part kind = n) (h0 : n ≠ 0) (hb : Below w.heap.size w w') : RetSE p s part kind w (.returned (.tuple #[scv sc0, .int .i64 n])) w' := by
  subst h
  exact ⟨sc0, rfl, sc0_ok _, by unfold wks; rw [if_neg h0]; rfl, by unfold wwd; rw [if_neg h0]; rfl, hb⟩
/-- The scheme that Withdraw makes, under construction. -/
structure WS (w wr : World) (g : Nat) (b2 off2 : Nat) (wd : List Int) (c2 : Nat) (vK : Value) (ks : List Ky) : Prop where
  ki : KI wr g (.slice (some ⟨b2, off2, none⟩) wd.length c2) vK ks
  res : Bk wr (w.heap.size + 2) 31 #[.slice none 0 0, .slice none 0 0]
  rd : RdI wr .i64 (some ⟨b2, off2, none⟩) wd
  fz : ∀ o, wr.frozen? ⟨b2, o, none⟩ = false
  be : Below w.heap.size w wr
  l1 : w.heap.size + 2 < b2
  l2 : b2 < g
section
variable {w wr w' : World} {g b2 off2 c2 : Nat} {wd : List Int} {vK : Value} {ks : List Ky}
theorem WS.old (h : WS w wr g b2 off2 wd c2 vK ks) (hb : Below wr.heap.size wr w') : WS w w' g b2 off2 wd c2 vK ks :=
  ⟨h.ki.old hb, h.res.old hb, h.rd.old hb, fun o => (hb.frozen (p := ⟨b2, o, none⟩) (by have := h.ki.bk.lt; have := h.l2; show b2 < _; omega)).trans (h.fz o), bl_trans h.be hb, h.l1, h.l2⟩
theorem WS.alloc (h : WS w wr g b2 off2 wd c2 vK ks) (o : Obj) : WS w (wr.alloc o) g b2 off2 wd c2 vK ks := h.old ((Below.refl _ _).alloc (Nat.le_refl _) o)
theorem WS.add {k : Ky} {g4 cap : Nat} (h : WS w wr g b2 off2 wd c2 vK ks) (hg : wr.grownBy w' vK.ownBlock) (ho : w'.ownsRow (g + 1) 22 1 (.slice (some ⟨g4, 0, none⟩) (ks.length + 1) cap) (ks.length + 1) (ks.map kv ++ [kv k])) (hat : vK.ownBlock = some g4 ∨ g4 = wr.heap.size)
    (hk : RdI wr .i64 k.A k.l) (hka : ∀ a, k.A = some a → g < a.block ∧ a.block < wr.heap.size ∧ vK.ownBlock ≠ some a.block) : WS w (w'.setCell ⟨g, 0, none⟩ (.slice (some ⟨g4, 0, none⟩) (ks.length + 1) cap)) g b2 off2 wd c2 (.slice (some ⟨g4, 0, none⟩) (ks.length + 1) cap) (ks ++ [k]) := by
  have hrow : ∀ q, vK.ownBlock = some q → g < q := fun q hq => (h.ki.own.lt q hq).1
  have l1 := h.l1
  have l2 := h.l2
  have l3 := h.ki.bk.lt
  have hgs : w'.grownBy (w'.setCell ⟨g, 0, none⟩ (.slice (some ⟨g4, 0, none⟩) (ks.length + 1) cap)) (some g) := gb_set (gb_refl _ _) (p := ⟨g, 0, none⟩) (.inl rfl) _
  refine ⟨h.ki.add hg ho hat hk hka, ?_, ?_, fun o => ?_, ?_, l1, l2⟩
  · exact (h.res.grown hg (fun e => by have := hrow _ e.symm; omega)).kept hgs (by omega)
  · exact (rdi_grown h.rd hg (fun a e => by cases e; intro e'; have := hrow _ e'; simp at this; omega)).grown hgs (Away.some (by show b2 ≠ g; omega))
  · have e1 := hg.block b2 (by omega) (fun e => by have := hrow _ e.symm; omega)
    have e2 := hgs.block b2 (by have := hg.size; omega) (by simp; omega)
    exact (World.frozen?_of_block (a := ⟨b2, o, none⟩) (e2.trans e1)).trans (h.fz o)
  · exact bl_gb (h.be.grown hg h.be.size (fun q hq => by have := hrow q hq; omega)) hgs (by omega)
end
theorem rdk_far {w : World} {K : Option Addr} {ks : List Ky} (h : RdK w K ks) {p : Addr} (hA : Away p.block K) (hk : ∀ i, i < ks.length → Away p.block (gk ks i).A) (u : Value) : RdK (w.setCell p u) K ks := h.grown (gb_set (gb_refl w (some p.block)) (.inl rfl) u) hA hk
set_option maxHeartbeats 4000000 in
set_option maxRecDepth 100000 in
theorem withdraw_any (p : Pa) (s : Sc) (i m : Int) (w : World) (hp : PaOk w p) (hs : ScOk w s)  :
    Calls Try.prog 26 #[pav p, scv s, .int .i64 i, .int .i64 m] w (RetSE p s i m w) := by
  have HV := Lib.hid (show ∀ W, Below w.heap.size w W → Calls Try.prog 35 #[.agg #[.int .i64 p.c, .int .i64 p.v, .slice p.A p.l.length p.k], .agg #[.slice s.K s.ks.length s.ck, .slice s.W s.wd.length s.cw]] W fun e w' => e = .returned (.bool (sval p s)) ∧ Below W.heap.size W w' from fun W hW => valid_any p s W (hp.old hW) (hs.old hW))
  show Calls Try.prog 26 #[.agg #[.int .i64 p.c, .int .i64 p.v, .slice p.A p.l.length p.k], .agg #[.slice s.K s.ks.length s.ck, .slice s.W s.wd.length s.cw], .int .i64 i, .int .i64 m] w _
  have hr0 := hp.rd
  have hk0 := hs.rk
  have hw0 := hs.rw
  generalize p.A = A at hr0 HV ⊢
  generalize s.K = K at hk0 HV ⊢
  generalize s.W = Wa at hw0 HV ⊢
  have HR := Lib.hid hr0
  have HK := Lib.hid hk0
  have HW := Lib.hid hw0
  have hl := hp.len
  have hlk := hs.lk
  have hlw := hs.lw
  have HLE := Lib.hid hs.le
  clear hr0 hk0 hw0 hp hs
  have hb0 : Below w.heap.size w (((w.alloc (.cells #[.int .i64 p.c, .int .i64 p.v, .slice A p.l.length p.k] 27)).alloc (.cells #[.slice K s.ks.length s.ck, .slice Wa s.wd.length s.cw] 31)).alloc (.cells #[.slice none 0 0, .slice none 0 0] 31)) := by (repeat (first | with_reducible exact Below.refl _ _ | with_reducible refine bl_drewN ?_ _ | with_reducible refine Below.drew ?_ | with_reducible refine bl_alloc ?_ _ | with_reducible refine Below.alloc ?_ (by first | omega | (simp; done) | (simp; omega)) _ | with_reducible refine Below.setCell ?_ (by first | omega | (simp; done) | (simp; omega)) _ | with_reducible assumption))
  have B1 : Bk (((w.alloc (.cells #[.int .i64 p.c, .int .i64 p.v, .slice A p.l.length p.k] 27)).alloc (.cells #[.slice K s.ks.length s.ck, .slice Wa s.wd.length s.cw] 31)).alloc (.cells #[.slice none 0 0, .slice none 0 0] 31)) w.heap.size 27 #[.int .i64 p.c, .int .i64 p.v, .slice A p.l.length p.k] := by (repeat (first | ((with_reducible refine Bk.new' ?_); (first | rfl | (simp; done) | (simp; omega))) | with_reducible refine Bk.alloc ?_ _ | with_reducible refine Bk.drewN ?_ _ | with_reducible refine Bk.drew ?_ | with_reducible assumption))
  have B2 : Bk (((w.alloc (.cells #[.int .i64 p.c, .int .i64 p.v, .slice A p.l.length p.k] 27)).alloc (.cells #[.slice K s.ks.length s.ck, .slice Wa s.wd.length s.cw] 31)).alloc (.cells #[.slice none 0 0, .slice none 0 0] 31)) (w.heap.size + 1) 31 #[.slice K s.ks.length s.ck, .slice Wa s.wd.length s.cw] := by (repeat (first | ((with_reducible refine Bk.new' ?_); (first | rfl | (simp; done) | (simp; omega))) | with_reducible refine Bk.alloc ?_ _ | with_reducible refine Bk.drewN ?_ _ | with_reducible refine Bk.drew ?_ | with_reducible assumption))
  have B3 : Bk (((w.alloc (.cells #[.int .i64 p.c, .int .i64 p.v, .slice A p.l.length p.k] 27)).alloc (.cells #[.slice K s.ks.length s.ck, .slice Wa s.wd.length s.cw] 31)).alloc (.cells #[.slice none 0 0, .slice none 0 0] 31)) (w.heap.size + 2) 31 #[.slice none 0 0, .slice none 0 0] := by (repeat (first | ((with_reducible refine Bk.new' ?_); (first | rfl | (simp; done) | (simp; omega))) | with_reducible refine Bk.alloc ?_ _ | with_reducible refine Bk.drewN ?_ _ | with_reducible refine Bk.drew ?_ | with_reducible assumption))
  go_enter Try.func26, Try.ntmps26
  go_wp2_with fail
  refine (HV.out _ hb0).mono ?_
  rintro e w1 ⟨rfl, hb1⟩
  have hc1 := bl_trans hb0 hb1
  have C1 := B1.old hb1
  have C2 := B2.old hb1
  have C3 := B3.old hb1
  clear hb0 B1 B2 hb1 B3
  have g1 := C1.lt
  have g2 := C2.lt
  have g3 := C3.lt
  obtain ⟨c0, c1, c2⟩ := bk3' C1
  obtain ⟨⟨d0, d1⟩, -⟩ := bk2 C2
  obtain ⟨⟨r0, r1⟩, rf0, rf1⟩ := bk2 C3
  have s0 : w1.cell? ⟨w.heap.size + 1 + 1, 0, none⟩ = some (.slice none 0 0) := r0
  have s1 : w1.cell? ⟨w.heap.size + 1 + 1, 1, none⟩ = some (.slice none 0 0) := r1
  cases hv : sval p s
  · have Hz := Lib.hid (wde_1 (part := i) (kind := m) hv)
    go_wp2_with fail
    refine bodyPost_ret (v := .tuple #[scv sc0, .int .i64 1]) (by simp [results, Try.results26, go_sem, s0, s1, sc0]) rfl (ret_sc0 Hz.out (by omega) (by (repeat (first | with_reducible exact Below.refl _ _ | with_reducible refine bl_drewN ?_ _ | with_reducible refine Below.drew ?_ | with_reducible refine bl_alloc ?_ _ | with_reducible refine Below.alloc ?_ (by first | omega | (simp; done) | (simp; omega)) _ | with_reducible refine Below.setCell ?_ (by first | omega | (simp; done) | (simp; omega)) _ | with_reducible assumption))))
  have HO := Lib.hid (sval_ok hv)
  have H1 := Lib.hid (sval_ok hv).lk
  have H2 := Lib.hid (sval_ok hv).lw
  have h24 := (sval_ok hv).len
  have Hv := Lib.hid hv
  by_cases hi : ¬ (0 ≤ i ∧ i < p.l.length)
  · have Hz := Lib.hid (wde_4 (kind := m) hv hi)
    clear hv
    go_wp2_with fail
    all_goals (first | (exfalso; omega) | (refine bodyPost_ret (v := .tuple #[scv sc0, .int .i64 4]) (by simp [results, Try.results26, go_sem, s0, s1, sc0]) rfl (ret_sc0 Hz.out (by omega) (by (repeat (first | with_reducible exact Below.refl _ _ | with_reducible refine bl_drewN ?_ _ | with_reducible refine Below.drew ?_ | with_reducible refine bl_alloc ?_ _ | with_reducible refine Below.alloc ?_ (by first | omega | (simp; done) | (simp; omega)) _ | with_reducible refine Below.setCell ?_ (by first | omega | (simp; done) | (simp; omega)) _ | with_reducible assumption))))))
  replace hi := Decidable.not_not.1 hi
  obtain ⟨hi0, hi1⟩ := hi
  obtain ⟨j, rfl⟩ := Int.eq_ofNat_of_zero_le hi0
  have hj : j < p.l.length := by omega
  have t3 : decide ((j : Int) < 0) = false := decide_eq_false (by omega)
  have t4 : decide ((p.l.length : Int) ≤ (j : Int)) = false := decide_eq_false (by omega)
  have t4' : decide (p.l.length ≤ j) = false := decide_eq_false (by omega)
  go_wp2_with fail
  refine (isknd m _).mono ?_
  rintro e w2 ⟨rfl, rfl⟩
  cases hk : knd m
  · have Hz := Lib.hid (wde_2 hv ⟨hi0, hi1⟩ hk)
    clear hv
    go_wp2_with fail
    refine bodyPost_ret (v := .tuple #[scv sc0, .int .i64 2]) (by simp [results, Try.results26, go_sem, s0, s1, sc0]) rfl (ret_sc0 Hz.out (by omega) (by (repeat (first | with_reducible exact Below.refl _ _ | with_reducible refine bl_drewN ?_ _ | with_reducible refine Below.drew ?_ | with_reducible refine bl_alloc ?_ _ | with_reducible refine Below.alloc ?_ (by first | omega | (simp; done) | (simp; omega)) _ | with_reducible refine Below.setCell ?_ (by first | omega | (simp; done) | (simp; omega)) _ | with_reducible assumption))))
  have Hz := Lib.hid (wde_0 hv ⟨hi0, hi1⟩ hk)
  clear hv hk
  go_wp2_with fail
  refine (clone_any s.wd Wa s.cw _ hlw (HW.out.old hc1)).mono ?_
  rintro e w2 ⟨A2, c2', rfl, hr2, ha2, hf2, hb2⟩
  have hjw : j < s.wd.length := by have := H2.out; omega
  obtain ⟨b2, off2, rfl, hbl2, -⟩ := hr2 j hjw
  have hx2 := (ha2 _ rfl).1
  have D1 := C1.old hb2
  have D2 := C2.old hb2
  have D3 := C3.old hb2
  have hc2 := bl_trans hc1 hb2
  have S0 : WS w (w2.alloc (.cells #[.slice none 0 0, .slice (some ⟨b2, off2, none⟩) s.wd.length c2'] 31)) w2.heap.size b2 off2 s.wd c2' (.slice none 0 0) [] :=
    ⟨⟨by exact Bk.new' rfl, World.ownsRow_nil _ _ _ _, fun q hq => absurd hq (by simp), fun q hq => absurd hq (by simp)⟩, D3.alloc _, hr2.alloc _, fun o => (((Below.refl _ w2).alloc (Nat.le_refl _) _).frozen (p := ⟨b2, o, none⟩) hbl2).trans (hf2 _ rfl o), bl_alloc hc2 _, by show _ < b2; simp at hx2; omega, hbl2⟩
  clear hr2 ha2 hf2 hb2 C1 C2 C3 hc1 D3 c0 c1 c2 d0 d1 r0 r1 rf0 rf1 s0 s1
  obtain ⟨⟨d0, d1⟩, -⟩ := bk2 D2
  have g4 := D2.lt
  go_wp2_with fail
  clear d0 d1 D1 D2 hc2
  obtain ⟨G, hG⟩ : ∃ G : Nat, G = w2.heap.size := ⟨_, rfl⟩
  rw [← hG] at S0 ⊢
  clear hG
  obtain ⟨i1, hi1', hy0, hy1, hy2⟩ := info_parts infoSl
  go_loopw [39] (fun q wr => ∃ (k : Nat) (vK : Value) (ks : List Ky), k ≤ s.ks.length ∧ q = .int .i64 k ∧ ks.length = k ∧ Hid (kls ks = (kls s.ks).take k) ∧ WS w wr G b2 off2 s.wd c2' vK ks) (fun q _ => s.ks.length - (intOf q).toNat)
  case atStart => exact ⟨0, _, [], by omega, rfl, rfl, by unfold Hid; rfl, S0⟩
  case round =>
    clear S0
    obtain ⟨k, vK, ks, hk, rfl, hkn, Hks, S⟩ := hrel
    have b0 : wr.cell? ⟨G, 0, none⟩ = some vK := S.ki.bk.cell 0
    have f0 : wr.frozen? ⟨G, 0, none⟩ = false := S.ki.bk.frozen 0
    have l4 := S.ki.bk.lt
    by_cases hlt : k < s.ks.length
    · obtain ⟨kb, koff, rfl, hkl, hkc, hkr⟩ := (HK.out.old S.be) k hlt
      have hkl2 := HLE.out k hlt
      go_upto_region 11 with fail
      go_region_law (first
        | (refine step_append_lies _ (by rfl) (.tmp 44) (.tmp 47) 29 (by rfl) (G + 1) 22 i1 (.slice none 0 0) 1 24 Try.underlying29 hi1' hy0 hy1 hy2 rfl (by decide) vK ks.length (ks.map kv) (by rfl) (S8.ki.own.alloc _) ⟨w8.heap.size, 0, none⟩ 1 1 [.slice A8 (gk s.ks k).l.length c8] (by rfl) rfl (one_cell _ _ _ _ rfl) (by simp [Value.oneCell']) (by decide) (by simp only [maxLen]; omega) (by omega) (by simp; omega) _ rfl ?_
           intro g9 cap9 w9 hown9 hgrow9 hat9 hlt9
           have hB9 := (S8.alloc (.cells #[.slice A8 (gk s.ks k).l.length c8] 22)).ki.bk.grown hgrow9 (fun e => by have := (S8.ki.own.lt _ e.symm).1; omega)
           have b9 : w9.cell? ⟨G, 0, none⟩ = some vK := hB9.cell 0
           have f9 : w9.frozen? ⟨G, 0, none⟩ = false := hB9.frozen 0)
        | (go_simp
           go_at_call 49
           refine (clone_any (gk s.ks k).l (gk s.ks k).A (gk s.ks k).c _ hkl2 (by exact hkr)).mono ?_
           rintro e w8 ⟨A8, c8, rfl, hr8, ha8, hf8, hb8⟩
           have hb8' : Below wr.heap.size wr w8 := bl_trans (Below.drew (Below.refl _ _)) hb8
           have S8 := S.old hb8'
           have b8 : w8.cell? ⟨G, 0, none⟩ = some vK := S8.ki.bk.cell 0
           have l8 := S8.ki.bk.lt))
      all_goals
        have S9 := (S8.alloc (.cells #[.slice A8 (gk s.ks k).l.length c8] 22)).add (k := ⟨A8, c8, (gk s.ks k).l⟩) hgrow9 hown9 (by simpa using hat9) (hr8.alloc _) (fun a ha => ⟨by have := (ha8 a ha).1; simp at this; omega, by have := (ha8 a ha).2; simp; omega, fun e => by have := (S.ki.own.lt _ e).2; have := (ha8 a ha).1; simp at this; omega⟩)
        have Hk9 := Lib.hid (kls_snoc (k := ⟨A8, c8, (gk s.ks k).l⟩) Hks.out (kls_get s.ks k hlt))
        clear b0 f0 b8 b9 f9 hB9 hown9 hgrow9 S8 S
        go_wp2_with fail
        go_roundw
        case rel => exact ⟨k + 1, _, ks ++ [⟨A8, c8, (gk s.ks k).l⟩], by omega, by go_num, by simp; omega, Hk9, by rw [hkn] at S9; exact S9⟩
        case measure => simp [intOf]; omega
    · have hke : k = s.ks.length := by omega
      have HE : Hid (kls ks = kls s.ks) := by
        unfold Hid
        have := Hks.out
        rw [hke, List.take_of_length_le (by simp [kls])] at this
        exact this
      obtain ⟨K', ck', rfl, hrk, hak⟩ := own_keys S.ki.own S.ki.rd
      obtain ⟨_, _, ee, _, x2⟩ := S.rd j hjw
      cases ee
      have y2 : wr.frozen? ⟨b2, off2 + j, none⟩ = false := S.fz _
      have b1 : wr.cell? ⟨G, 1, none⟩ = some (.slice (some ⟨b2, off2, none⟩) s.wd.length c2') := S.ki.bk.cell 1
      have l1 := S.l1
      have l2 := S.l2
      have s0 : wr.cell? ⟨w.heap.size + 1 + 1, 0, none⟩ = some (.slice none 0 0) := S.res.cell 0
      have s1 : wr.cell? ⟨w.heap.size + 1 + 1, 1, none⟩ = some (.slice none 0 0) := S.res.cell 1
      have sf0 : wr.frozen? ⟨w.heap.size + 1 + 1, 0, none⟩ = false := S.res.frozen 0
      have sf1 : wr.frozen? ⟨w.heap.size + 1 + 1, 1, none⟩ = false := S.res.frozen 1
      have n1 : b2 ≠ G := by omega
      have n2 : b2 ≠ w.heap.size + 1 + 1 := by omega
      have n3 : G ≠ w.heap.size + 1 + 1 := by omega
      have n4 := n1.symm
      have n5 := n2.symm
      have n6 := n3.symm
      have q5 : (j : Int) < s.wd.length := by omega
      have hS := Lib.hid S
      have Hhak := Lib.hid hak
      have Hrk := Lib.hid hrk
      clear S hak hrk hke
      go_wp2_with fail
      refine bodyPost_ret (v := .tuple #[scv ⟨K', ck', ks, some ⟨b2, off2, none⟩, c2', s.wd.set j m⟩, .int .i64 0]) (by simp [results, Try.results26, go_sem, s0, s1, n1, n2, n3, n4, n5, n6, hkn]) rfl ?_
      have S := hS.out
      have aw : ∀ q : Nat, q ≤ G → Away q K' := fun q hq a ha => by have := (Hhak.out a ha).1; omega
      have al : ∀ q : Nat, q ≤ G → ∀ i, i < ks.length → Away q (gk ks i).A := fun q hq i hi a ha => by have := (S.ki.ne i hi a ha).1; omega
      refine ⟨_, by rw [Hz.out], ⟨?_, ?_, ?_, ?_, ?_⟩, ?_, ?_, ?_⟩
      · exact rdk_far (rdk_far (rdk_far Hrk.out (p := ⟨b2, off2 + j, none⟩) (aw b2 (by omega)) (al b2 (by omega)) _) (p := ⟨w.heap.size + 1 + 1, 0, none⟩) (aw _ (by show w.heap.size + 1 + 1 ≤ G; omega)) (al _ (by show w.heap.size + 1 + 1 ≤ G; omega)) _) (p := ⟨w.heap.size + 1 + 1, 1, none⟩) (aw _ (by show w.heap.size + 1 + 1 ≤ G; omega)) (al _ (by show w.heap.size + 1 + 1 ≤ G; omega)) _
      · exact ((rdi_set S.rd j hjw m).far (p := ⟨w.heap.size + 1 + 1, 0, none⟩) (Away.some n2) _).far (p := ⟨w.heap.size + 1 + 1, 1, none⟩) (Away.some n2) _
      · show ks.length ≤ 1000; omega
      · show (s.wd.set j m).length ≤ 1000; simp; omega
      · intro i hi
        rw [(kls_at HE.out).2 i]
        exact HLE.out i (by have := (kls_at HE.out).1; have : i < ks.length := hi; omega)
      · unfold wks; rw [if_pos Hz.out]; exact HE.out
      · unfold wwd; rw [if_pos Hz.out]; rfl
      · exact ((S.be.setCell (p := ⟨b2, off2 + j, none⟩) (by show w.heap.size ≤ b2; omega) _).setCell (p := ⟨w.heap.size + 1 + 1, 0, none⟩) (by show w.heap.size ≤ w.heap.size + 1 + 1; omega) _).setCell (p := ⟨w.heap.size + 1 + 1, 1, none⟩) (by show w.heap.size ≤ w.heap.size + 1 + 1; omega) _
end Go.Proofs.Ytokddjohdodkmaa.Tm
