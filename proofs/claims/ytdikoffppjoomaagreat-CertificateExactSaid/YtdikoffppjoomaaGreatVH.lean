/- Walks: Pick, an entry that can often not be appended; what the statement CertificateExact has in memory. -/
import Derived.Test.YtdikoffppjoomaaGreatVG
import Derived.Test.YtdikoffppjoomaaGreatCZ
import Derived.Test.YtdikoffppjoomaaGreatMDn
import Derived.WalkKit
import Derived.WalkSpells
import Derived.WalkLawsBesides
import Derived.Deep.QuietTactic
import Derived.BigQuiet
import Derived.Deep.Draws
import Derived.Deep.AppendLies
import Derived.Laws.OwnMore
import Derived.Laws.BytesArg
import Derived.Lib.Hide
import Derived.Deep.LoopGhost
import Derived.Deep.RegionLaw
namespace Go.Proofs.YtdikoffppjoomaaGreat.Ct
open Go.RowKit Go.Proofs.YtdikoffppjoomaaGreat.Dg
open Go.Proofs.YtdikoffppjoomaaGreat.Mw (I64 ret_int ret_bool Bk bl_trans own_ints RdI RdR ge ge_lt gi_mem ge_mem own_rows Away bl_gb gb_trans gb_below gb_alloc gb_set)
open Go.Proofs.YtdikoffppjoomaaGreat.Dc (Di DI DB next_any roll_any light_any)
open Go.Proofs.YtdikoffppjoomaaGreat.Tr (RdD pathE)
open Go.Proofs.YtdikoffppjoomaaGreat.Sg (Wd pw val)
set_option linter.unusedVariables false
set_option linter.unusedSimpArgs false
set_option maxRecDepth 100000

theorem pick_any (tp : Nat) (l : List Int) (A : Option Addr) (c : Nat) (w : World) (ht : Di w tp) (h1 : 1 ≤ l.length) (h2 : l.length ≤ 1000) (hr : RdI w .i64 A l) (hA : Away tp A) :
    Calls Tryz.prog 33 #[.pointer (some ⟨tp, 0, none⟩), .slice A l.length c] w (DI (fun x => x ∈ l) tp w) := by
  go_enter Tryz.func33, Tryz.ntmps33
  go_wp2_with fail
  refine (next_any tp _ _ ht (by omega) (by omega)).mono ?_
  rintro e w1 ⟨x, hx, rfl, ht1, hg1⟩
  obtain ⟨k, rfl⟩ := Int.eq_ofNat_of_zero_le hx.1
  obtain ⟨hx0, hx1⟩ := hx
  have hk : k < l.length := by omega
  obtain ⟨b, off, rfl, hbl, hc⟩ := (hr.grown hg1 hA) k hk
  go_wp2_with fail
  go_ret
  exact ⟨Mw.gi l k, gi_mem l k hk, rfl, ht1, hg1⟩
/-- The world has gone on, and the dice may have turned. -/
structure Mv (tp : Nat) (a b : World) : Prop where
  gb : a.grownBy b (some tp)
  di : Di b tp
section
variable {tp : Nat} {a b c : World}
theorem Mv.refl (h : Di a tp) : Mv tp a a := ⟨Mw.gb_refl _ _, h⟩
theorem Mv.trans (h : Mv tp a b) (k : Mv tp b c) : Mv tp a c := ⟨gb_trans h.gb k.gb, k.di⟩
theorem Mv.old (h : Mv tp a b) (hb : Below b.heap.size b c) : Mv tp a c := ⟨gb_below h.gb hb, h.di.old hb⟩
theorem Mv.turn (h : Mv tp a b) (hg : b.grownBy c (some tp)) (hd : Di c tp) : Mv tp a c := ⟨gb_trans h.gb hg, hd⟩
theorem Mv.alloc (h : Mv tp a b) (o : Obj) : Mv tp a (b.alloc o) := ⟨gb_alloc h.gb o, h.di.alloc o⟩
theorem Mv.drew (h : Mv tp a b) : Mv tp a b.drew := ⟨Mw.gb_drew h.gb, h.di.drew⟩
theorem Mv.set (h : Mv tp a b) {p : Addr} (hp : a.heap.size ≤ p.block) (ht : tp < p.block) (u : Value) : Mv tp a (b.setCell p u) := ⟨gb_set h.gb (.inr hp) u, h.di.far ht u⟩
theorem Mv.size (h : Mv tp a b) : a.heap.size ≤ b.heap.size := h.gb.size
theorem bk_mv {g : Nat} {T : TypeId} {cs : Array Value} (hB : Bk a g T cs) (h : Mv tp a b) (hne : g ≠ tp) : Bk b g T cs := hB.kept h.gb hne
end
theorem pickl {tp : Nat} {w : World} (l : List Int) {cs : Array Value} (n c : Nat) (ht : Di w tp) (hcs : (l.map (Value.int .i64)).toArray = cs) (hn : n = l.length) {g : Nat} (hg : g = w.heap.size) (h1 : 1 ≤ l.length) (h2 : l.length ≤ 1000) :
    Calls Tryz.prog 33 #[.pointer (some ⟨tp, 0, none⟩), .slice (some ⟨g, 0, none⟩) n c] (w.alloc (.cells cs 3)) (fun e w' => ∃ x : Int, x ∈ l ∧ e = .returned (.int .i64 x) ∧ Mv tp w w') := by
  subst hn hg
  refine (pick_any tp l (some ⟨w.heap.size, 0, none⟩) c _ (ht.alloc _) h1 h2 (RdI.lit' rfl hcs rfl) (Away.some (by have := ht.lt; show w.heap.size ≠ tp; omega))).mono ?_
  rintro e w' ⟨x, hx, he, hd, hg⟩
  exact ⟨x, hx, he, ⟨gb_trans (gb_alloc (Mw.gb_refl _ _) _) hg, hd⟩⟩
theorem i64_mem {l : List Int} (h : l.all (fun x => decide (-1000000 ≤ x ∧ x ≤ 1000000)) = true) {x : Int} (hx : x ∈ l) : I64 x := by
  have := List.all_eq_true.1 h x hx
  have := of_decide_eq_true this
  unfold Mw.I64; omega
set_option maxHeartbeats 4000000 in
theorem odd_any (tp : Nat) (w : World) (ht : Di w tp) : Calls Tryz.prog 18 #[.pointer (some ⟨tp, 0, none⟩)] w (fun e w' => ∃ y : Le, Le64 y ∧ e = .returned (lev y) ∧ Mv tp w w') := by
  have htl := ht.lt
  have hZ : Bk (w.alloc (.cells #[.int .i64 0, .int .i64 0, .int .i64 0, .int .i64 0, .int .i64 0, .int .i64 0] 54)) w.heap.size 54 #[.int .i64 0, .int .i64 0, .int .i64 0, .int .i64 0, .int .i64 0, .int .i64 0] := Mw.Bk.new _ _ _
  have hm0 : Mv tp w (w.alloc (.cells #[.int .i64 0, .int .i64 0, .int .i64 0, .int .i64 0, .int .i64 0, .int .i64 0] 54)) := (Mv.refl ht).alloc _
  go_enter Tryz.func18, Tryz.ntmps18
  go_wp2_with fail
  refine (pickl [0, 0, 1, 2, -1] _ _ hm0.di rfl rfl (by first | rfl | simp) (by decide) (by decide)).mono ?_
  rintro e w1 ⟨k, hk, rfl, hm⟩
  have Hk := Lib.hid (i64_mem rfl hk)
  have hm1 := hm0.trans hm
  have hZ1 := bk_mv hZ hm (by omega)
  clear hk hm hm0 hZ
  go_wp2_with fail
  refine (pickl [0, 1, 2, 3, 50, 9999, 10000] _ _ hm1.di rfl rfl (by first | rfl | simp) (by decide) (by decide)).mono ?_
  rintro e w2 ⟨i, hk, rfl, hm⟩
  have Hi := Lib.hid (i64_mem rfl hk)
  have hm2 := hm1.trans hm
  have hZ2 := bk_mv hZ1 hm (by omega)
  clear hk hm hm1 hZ1
  go_wp2_with fail
  refine (pickl [0, 1, 2, -1] _ _ hm2.di rfl rfl (by first | rfl | simp) (by decide) (by decide)).mono ?_
  rintro e w3 ⟨c, hk, rfl, hm⟩
  have Hc := Lib.hid (i64_mem rfl hk)
  have hm3 := hm2.trans hm
  have hZ3 := bk_mv hZ2 hm (by omega)
  clear hk hm hm2 hZ2
  go_wp2_with fail
  refine (pickl [0, 9, 10] _ _ hm3.di rfl rfl (by first | rfl | simp) (by decide) (by decide)).mono ?_
  rintro e w4 ⟨g, hk, rfl, hm⟩
  have Hg := Lib.hid (i64_mem rfl hk)
  have hm4 := hm3.trans hm
  have hZ4 := bk_mv hZ3 hm (by omega)
  clear hk hm hm3 hZ3
  go_wp2_with fail
  refine (pickl [0, 100, -1, 1000000] _ _ hm4.di rfl rfl (by first | rfl | simp) (by decide) (by decide)).mono ?_
  rintro e w5 ⟨t, hk, rfl, hm⟩
  have Ht := Lib.hid (i64_mem rfl hk)
  have hm5 := hm4.trans hm
  have hZ5 := bk_mv hZ4 hm (by omega)
  clear hk hm hm4 hZ4
  go_wp2_with fail
  refine (pickl [0, 0, 1, 2] _ _ hm5.di rfl rfl (by first | rfl | simp) (by decide) (by decide)).mono ?_
  rintro e w6 ⟨r, hk, rfl, hm⟩
  have Hr := Lib.hid (i64_mem rfl hk)
  have hm6 := hm5.trans hm
  have hZ6 := bk_mv hZ5 hm (by omega)
  clear hk hm hm5 hZ5
  have yf := fun o => hZ6.frozen o
  have y0 := hZ6.cell 0
  have y1 := hZ6.cell 1
  have y2 := hZ6.cell 2
  have y3 := hZ6.cell 3
  have y4 := hZ6.cell 4
  have y5 := hZ6.cell 5
  have yl := hZ6.lt
  go_wp2_with fail
  clear yf y0 y1 y2 y3 y4 y5 yl
  have hBz := Mw.Bk.set (Mw.Bk.set (Mw.Bk.set (Mw.Bk.set (Mw.Bk.set (Mw.Bk.set hZ6 0 (.int .i64 k)) 1 (.int .i64 i)) 2 (.int .i64 c)) 3 (.int .i64 g)) 4 (.int .i64 t)) 5 (.int .i64 r)
  simp only [List.setIfInBounds_toArray, List.set_cons_zero, List.set_cons_succ] at hBz
  have hmz : Mv tp w ((((((w6.setCell ⟨w.heap.size, 0, none⟩ (.int .i64 k)).setCell ⟨w.heap.size, 1, none⟩ (.int .i64 i)).setCell ⟨w.heap.size, 2, none⟩ (.int .i64 c)).setCell ⟨w.heap.size, 3, none⟩ (.int .i64 g)).setCell ⟨w.heap.size, 4, none⟩ (.int .i64 t)).setCell ⟨w.heap.size, 5, none⟩ (.int .i64 r)) :=
    (((((hm6.set (p := ⟨w.heap.size, 0, none⟩) (Nat.le_refl _) htl _).set (p := ⟨w.heap.size, 1, none⟩) (Nat.le_refl _) htl _).set (p := ⟨w.heap.size, 2, none⟩) (Nat.le_refl _) htl _).set (p := ⟨w.heap.size, 3, none⟩) (Nat.le_refl _) htl _).set (p := ⟨w.heap.size, 4, none⟩) (Nat.le_refl _) htl _).set (p := ⟨w.heap.size, 5, none⟩) (Nat.le_refl _) htl _
  generalize ((((((w6.setCell ⟨w.heap.size, 0, none⟩ (.int .i64 k)).setCell ⟨w.heap.size, 1, none⟩ (.int .i64 i)).setCell ⟨w.heap.size, 2, none⟩ (.int .i64 c)).setCell ⟨w.heap.size, 3, none⟩ (.int .i64 g)).setCell ⟨w.heap.size, 4, none⟩ (.int .i64 t)).setCell ⟨w.heap.size, 5, none⟩ (.int .i64 r)) = wz at *
  have k0 := hBz.cell 0
  have k1 := hBz.cell 1
  have k2 := hBz.cell 2
  have k3 := hBz.cell 3
  have k4 := hBz.cell 4
  have k5 := hBz.cell 5
  refine bodyPost_ret (v := lev ⟨k, ⟨i, c, g, t, r⟩⟩) (by simp [results, Tryz.results18, go_sem, k0, k1, k2, k3, k4, k5]) rfl ⟨⟨k, ⟨i, c, g, t, r⟩⟩, ⟨Hk.out, Hi.out, Hc.out, Hg.out, Ht.out, Hr.out⟩, rfl, hmz⟩

/-- The path of a proof can be read. -/
def Pa (w : World) (A : Option Addr) (l : List St) (c : Nat) : Prop := l.length ≤ 1000000 ∧ l.length ≤ c ∧ c ≤ maxLen ∧ RdD w A l
theorem Pa.old {w w' : World} {A : Option Addr} {l : List St} {c : Nat} (h : Pa w A l c) (hb : Below w.heap.size w w') : Pa w' A l c := ⟨h.1, h.2.1, h.2.2.1, h.2.2.2.old hb⟩
/-- A log at hand. -/
structure Lg (w : World) (tp : Nat) (A : Option Addr) (c : Nat) (l : List Le) : Prop where
  rd : RdL w A l
  len : l.length ≤ 10
  cap : l.length ≤ c
  i64 : ∀ x, x ∈ l → Le64 x
  away : l.length = 0 ∨ Away tp A
section
variable {w w' : World} {tp : Nat} {A : Option Addr} {c : Nat} {l : List Le}
theorem Lg.old (h : Lg w tp A c l) (hb : Below w.heap.size w w') : Lg w' tp A c l := ⟨h.rd.old hb, h.len, h.cap, h.i64, h.away⟩
theorem Lg.mv (h : Lg w tp A c l) (hm : Mv tp w w') : Lg w' tp A c l := ⟨by
  rcases h.away with h0 | h0
  · exact fun i hi => absurd hi (by omega)
  · exact h.rd.grown hm.gb h0, h.len, h.cap, h.i64, h.away⟩
end
/-- A list of digests at hand. -/
structure Dl (w : World) (tp : Nat) (A : Option Addr) (c : Nat) (l : List St) : Prop where
  pa : Pa w A l c
  away : l.length = 0 ∨ Away tp A
section
variable {w w' : World} {tp : Nat} {A : Option Addr} {c : Nat} {l : List St}
theorem Dl.old (h : Dl w tp A c l) (hb : Below w.heap.size w w') : Dl w' tp A c l := ⟨h.pa.old hb, h.away⟩
theorem Dl.mv (h : Dl w tp A c l) (hm : Mv tp w w') : Dl w' tp A c l := ⟨⟨h.pa.1, h.pa.2.1, h.pa.2.2.1, by
  rcases h.away with h0 | h0
  · exact fun i hi => absurd hi (by omega)
  · exact h.pa.2.2.2.grown hm.gb h0⟩, h.away⟩
end
theorem away_lt {tp : Nat} {w : World} {A : Option Addr} (ht : tp < w.heap.size) (h : ∀ a, A = some a → w.heap.size ≤ a.block) : Away tp A := fun a ha => by have := h a ha; omega
theorem fix_bd {α : Type} (p : α → Bool) : ∀ (l : List α) (n : Nat), -1 ≤ fix p l n ∧ fix p l n ≤ n + l.length
  | [], n => by unfold fix; constructor <;> simp <;> omega
  | x :: l, n => by
    unfold fix
    split
    · simp; omega
    · have := fix_bd p l (n + 1); simp; omega
theorem prv_bd (l : List Le) (id : Int) (h : l.length ≤ 10) : (-1 ≤ (prv l id).1.ix ∧ (prv l id).1.ix ≤ 10) ∧ (-1 ≤ (prv l id).1.pl ∧ (prv l id).1.pl ≤ 10) ∧ (prv l id).1.pa.length ≤ 1000000 ∧ (prv l id).1.sp.length ≤ 1000000 := by
  have h0 : (-1 ≤ pv0.ix ∧ pv0.ix ≤ 10) ∧ (-1 ≤ pv0.pl ∧ pv0.pl ≤ 10) ∧ pv0.pa.length ≤ 1000000 ∧ pv0.sp.length ≤ 1000000 := ⟨⟨by decide, by decide⟩, ⟨by decide, by decide⟩, by decide, by decide⟩
  unfold prv
  split
  · split
    · split
      · exact h0
      · have h1 := fix_bd (fun x => is1 x id) l 0
        have h2 := fix_bd (fun x : Cf => decide (x.i = id)) (cur l) 0
        have h3 := len_curN l l.length
        have h4 : (cur l).length ≤ 10 := by unfold cur; omega
        refine ⟨?_, ?_, pathE_256 _ _ (by simp; omega), pathE_256 _ _ (by simp; omega)⟩
        · show -1 ≤ fix (fun x => is1 x id) l 0 ∧ fix (fun x => is1 x id) l 0 ≤ 10
          omega
        · show -1 ≤ fix (fun x : Cf => decide (x.i = id)) (cur l) 0 ∧ fix (fun x : Cf => decide (x.i = id)) (cur l) 0 ≤ 10
          omega
    · exact h0
  · exact h0
theorem sld_i (s : Int) (l : List Le) : I64 (sld s l).1.R ∧ I64 (sld s l).1.S ∧ Wd (sld s l).1.r ∧ Wd (sld s l).1.l := by
  have h0 : I64 he0.R ∧ I64 he0.S ∧ Wd he0.r ∧ Wd he0.l := ⟨by unfold Mw.I64; decide, by unfold Mw.I64; decide, by unfold Sg.Wd; decide, by unfold Sg.Wd; decide⟩
  unfold sld
  split
  · split
    · exact hd1_i s l
    · exact h0
  · exact h0
theorem pubk_i (s : Int) : I64 (Sg.pubk s) := by
  unfold Sg.pubk
  split
  · exact pw_i64 _ _
  · unfold Mw.I64; decide
end Go.Proofs.YtdikoffppjoomaaGreat.Ct
