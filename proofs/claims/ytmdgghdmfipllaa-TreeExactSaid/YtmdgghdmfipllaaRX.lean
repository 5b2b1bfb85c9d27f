/- Walk: the statement TreeExact. -/
import Derived.Test.YtmdgghdmfipllaaRK
import Derived.Test.YtmdgghdmfipllaaRHn
import Derived.WalkKit
import Derived.WalkSpells
import Derived.WalkLawsBesides
import Derived.Deep.QuietTactic
import Derived.BigQuiet
import Derived.Deep.Draws
import Derived.Deep.AppendLies
import Derived.Laws.OwnMore
import Derived.Laws.BytesArg
import Derived.Lib.Hide
import Derived.Deep.LoopGhost
import Derived.RegionTactic
namespace Go.Proofs.Ytmdgghdmfipllaa.Tr
open Go.RowKit Go.Proofs.Ytmdgghdmfipllaa.Dg
open Go.Proofs.Ytmdgghdmfipllaa.Mw (I64 ret_int ret_bool Bk bl_trans own_ints RdI bl_gb Away)
open Go.Proofs.Ytmdgghdmfipllaa.Dc (Di DI next_any roll_any light_any)
set_option linter.unusedVariables false
attribute [local go_sem] eq_dig

/-- A slice of digests that is at hand: it reads as a list, is short, and does not lie in the dice. -/
structure Sl (w : World) (tp : Nat) (A : Option Addr) (c : Nat) (l : List St) : Prop where
  rd : RdD w A l
  len : l.length ≤ 20
  cap : l.length ≤ c
  max : c ≤ maxLen
  away : l.length = 0 ∨ Away tp A
section
variable {w w' : World} {tp : Nat} {A : Option Addr} {c : Nat} {l : List St}
theorem Sl.old (h : Sl w tp A c l) (hb : Below w.heap.size w w') : Sl w' tp A c l := ⟨h.rd.old hb, h.len, h.cap, h.max, h.away⟩
theorem Sl.turn (h : Sl w tp A c l) (hg : w.grownBy w' (some tp)) : Sl w' tp A c l := ⟨(by
  rcases h.away with h0 | h0
  · exact fun i hi => absurd hi (by omega)
  · exact h.rd.grown hg h0), h.len, h.cap, h.max, h.away⟩
theorem Sl.alloc (h : Sl w tp A c l) (o : Obj) : Sl (w.alloc o) tp A c l := h.old ((Below.refl _ _).alloc (Nat.le_refl _) o)
end
theorem idx2_0 (a b : Value) (w : World) : (Instr.index 44 (.agg #[a, b]) (.int .i64 0)).run Try.prog w = .ok a w := by kernel_rfl
theorem idx2_1 (a b : Value) (w : World) : (Instr.index 44 (.agg #[a, b]) (.int .i64 1)).run Try.prog w = .ok b w := by kernel_rfl
theorem idx4_0 (a b c d : Value) (w : World) : (Instr.index 45 (.agg #[a, b, c, d]) (.int .i64 0)).run Try.prog w = .ok a w := by kernel_rfl
theorem idx4_1 (a b c d : Value) (w : World) : (Instr.index 45 (.agg #[a, b, c, d]) (.int .i64 1)).run Try.prog w = .ok b w := by kernel_rfl
theorem idx4_2 (a b c d : Value) (w : World) : (Instr.index 45 (.agg #[a, b, c, d]) (.int .i64 2)).run Try.prog w = .ok c w := by kernel_rfl
theorem idx4_3 (a b c d : Value) (w : World) : (Instr.index 45 (.agg #[a, b, c, d]) (.int .i64 3)).run Try.prog w = .ok d w := by kernel_rfl
theorem idx3_0 (a b c : Value) (w : World) : (Instr.index 47 (.agg #[a, b, c]) (.int .i64 0)).run Try.prog w = .ok a w := by kernel_rfl
theorem idx3_1 (a b c : Value) (w : World) : (Instr.index 47 (.agg #[a, b, c]) (.int .i64 1)).run Try.prog w = .ok b w := by kernel_rfl
theorem idx3_2 (a b c : Value) (w : World) : (Instr.index 47 (.agg #[a, b, c]) (.int .i64 2)).run Try.prog w = .ok c w := by kernel_rfl
theorem idy3_0 (a b c : Value) (w : World) : (Instr.index 48 (.agg #[a, b, c]) (.int .i64 0)).run Try.prog w = .ok a w := by kernel_rfl
theorem idy3_1 (a b c : Value) (w : World) : (Instr.index 48 (.agg #[a, b, c]) (.int .i64 1)).run Try.prog w = .ok b w := by kernel_rfl
theorem idy3_2 (a b c : Value) (w : World) : (Instr.index 48 (.agg #[a, b, c]) (.int .i64 2)).run Try.prog w = .ok c w := by kernel_rfl
theorem pathE_len (l : List St) (i : Int) (h : l.length ≤ 20) : (pathE l i).1.length ≤ 20 := by
  unfold pathE
  split
  · simp
  split
  · simp
  · have := path_len 5 l i.toNat (by omega)
    show (path l i.toNat).length ≤ 20
    omega
theorem consE_len (l : List St) (i : Int) (h : l.length ≤ 20) : (consE l i).1.length ≤ 20 := by
  unfold consE
  split
  · simp
  split
  · simp
  · have := cons_len 5 l i.toNat true (by omega)
    show (cons l i.toNat true).length ≤ 20
    omega
theorem rd_new {w w' : World} {A : Option Addr} {l : List St} {tp : Nat} (hr : RdD w' A l) (hA : ∀ a, A = some a → w.heap.size ≤ a.block) (ht : tp < w.heap.size) : Away tp A := fun a ha => by have := hA a ha; omega
/-- One of two lists. -/
theorem pick2 {w : World} {tp : Nat} {A B : Option Addr} {c d : Nat} {l m : List St} (h1 : Sl w tp A c l) (h2 : Sl w tp B d m) (k : Nat) (hk : k < 2) :
    ∃ (X : Option Addr) (e : Nat) (x : List St), Sl w tp X e x ∧ ∀ W, (Instr.index 44 (.agg #[.slice A l.length c, .slice B m.length d]) (.int .i64 (k : Int))).run Try.prog W = .ok (.slice X x.length e) W := by
  have : k = 0 ∨ k = 1 := by omega
  rcases this with h | h <;> subst h
  · exact ⟨A, c, l, h1, fun W => idx2_0 _ _ W⟩
  · exact ⟨B, d, m, h2, fun W => idx2_1 _ _ W⟩
theorem pick3 {w : World} {tp : Nat} {A B C : Option Addr} {c d e : Nat} {l m n : List St} (h1 : Sl w tp A c l) (h2 : Sl w tp B d m) (h3 : Sl w tp C e n) (k : Nat) (hk : k < 3) :
    ∃ (X : Option Addr) (f : Nat) (x : List St), Sl w tp X f x ∧ ∀ W, (Instr.index 48 (.agg #[.slice A l.length c, .slice B m.length d, .slice C n.length e]) (.int .i64 (k : Int))).run Try.prog W = .ok (.slice X x.length f) W := by
  have : k = 0 ∨ k = 1 ∨ k = 2 := by omega
  rcases this with h | h | h <;> subst h
  · exact ⟨A, c, l, h1, fun W => idy3_0 _ _ _ W⟩
  · exact ⟨B, d, m, h2, fun W => idy3_1 _ _ _ W⟩
  · exact ⟨C, e, n, h3, fun W => idy3_2 _ _ _ W⟩
theorem pickI4 {a b c d : Int} (h1 : I64 a) (h2 : I64 b) (h3 : I64 c) (h4 : I64 d) (k : Nat) (hk : k < 4) :
    ∃ x, I64 x ∧ ∀ W, (Instr.index 45 (.agg #[.int .i64 a, .int .i64 b, .int .i64 c, .int .i64 d]) (.int .i64 (k : Int))).run Try.prog W = .ok (.int .i64 x) W := by
  have : k = 0 ∨ k = 1 ∨ k = 2 ∨ k = 3 := by omega
  rcases this with h | h | h | h <;> subst h
  · exact ⟨a, h1, fun W => idx4_0 _ _ _ _ W⟩
  · exact ⟨b, h2, fun W => idx4_1 _ _ _ _ W⟩
  · exact ⟨c, h3, fun W => idx4_2 _ _ _ _ W⟩
  · exact ⟨d, h4, fun W => idx4_3 _ _ _ _ W⟩
theorem pickI3 {a b c : Int} (h1 : I64 a) (h2 : I64 b) (h3 : I64 c) (k : Nat) (hk : k < 3) :
    ∃ x, I64 x ∧ ∀ W, (Instr.index 47 (.agg #[.int .i64 a, .int .i64 b, .int .i64 c]) (.int .i64 (k : Int))).run Try.prog W = .ok (.int .i64 x) W := by
  have : k = 0 ∨ k = 1 ∨ k = 2 := by omega
  rcases this with h | h | h <;> subst h
  · exact ⟨a, h1, fun W => idx3_0 _ _ _ W⟩
  · exact ⟨b, h2, fun W => idx3_1 _ _ _ W⟩
  · exact ⟨c, h3, fun W => idx3_2 _ _ _ W⟩

/-- What the statement has in memory. -/
structure EW (w wr : World) (tp : Nat) (d : St) (AL : Option Addr) (cL : Nat) (l : List St) (AR : Option Addr) (cR : Nat) (R : List St) : Prop where
  di : Di wr tp
  bd : Bk wr w.heap.size 34 (c4 d)
  sl : Sl wr tp AL cL l
  sr : Sl wr tp AR cR R
  be : Below w.heap.size w wr
  tp : tp = w.heap.size + 1
section
variable {w wr w' : World} {tp : Nat} {d : St} {AL AR : Option Addr} {cL cR : Nat} {l R : List St}
theorem EW.old (h : EW w wr tp d AL cL l AR cR R) (hb : Below wr.heap.size wr w') : EW w w' tp d AL cL l AR cR R := ⟨h.di.old hb, h.bd.old hb, h.sl.old hb, h.sr.old hb, bl_trans h.be hb, h.tp⟩
theorem EW.alloc (h : EW w wr tp d AL cL l AR cR R) (o : Obj) : EW w (wr.alloc o) tp d AL cL l AR cR R := h.old ((Below.refl _ _).alloc (Nat.le_refl _) o)
theorem EW.turn (h : EW w wr tp d AL cL l AR cR R) (hg : wr.grownBy w' (some tp)) (hd : Di w' tp) : EW w w' tp d AL cL l AR cR R :=
  ⟨hd, h.bd.kept hg (by have := h.tp; omega), h.sl.turn hg, h.sr.turn hg, bl_gb h.be hg (by have := h.tp; omega), h.tp⟩
end
theorem sl_new {w w' : World} {tp : Nat} {A : Option Addr} {c : Nat} {l : List St} (hr : RdD w' A l) (hl : l.length ≤ 20) (hc : l.length ≤ c) (hm : c ≤ maxLen) (hA : ∀ a, A = some a → w.heap.size ≤ a.block) (ht : tp < w.heap.size) : Sl w' tp A c l :=
  ⟨hr, hl, hc, hm, .inr (fun a ha => by have := hA a ha; omega)⟩
theorem i64s {x : Int} (h1 : -1000000 ≤ x) (h2 : x ≤ 1000000) : I64 x := by unfold Mw.I64; omega

set_option maxHeartbeats 40000000 in
set_option maxRecDepth 1000000 in
theorem exact_any (l0 : List Int) (A0 : Option Addr) (c0 : Nat) (R : List St) (AR : Option Addr) (cR : Nat) (ix size first : Int) (d : St) (w : World) (hr : RdI w .i64 A0 l0) (hi : ∀ x ∈ l0, I64 x) (hR : RdD w AR R) (hRc : R.length ≤ cR) (hRm : cR ≤ maxLen) (h1 : I64 ix) (h2 : I64 size) (h3 : I64 first) (hL1 : l0.length ≤ 600) (hL2 : R.length ≤ 20) :
    Calls Try.prog 5 #[.slice A0 l0.length c0, .slice AR R.length cR, .int .i64 ix, .int .i64 size, .int .i64 first, dv d] w fun e w' => e = .returned (.bool true) ∧ Below w.heap.size w w' := by
  have HL := Lib.hid (show ∀ W : World, Calls Try.prog 7 #[.slice A0 l0.length c0] W fun e w' => e = .returned (.bool true) ∧ W = w' from fun W => by have h6 := light_any l0 A0 c0 W; rwa [decide_eq_true hL1] at h6)
  have t1 : decide ((20 : Int) < (R.length : Int)) = false := decide_eq_false (by omega)
  have t1' : decide (20 < R.length) = false := decide_eq_false (by omega)
  have HR := Lib.hid (roll_any l0 A0 c0 (w.alloc (.cells (c4 d) 34)) (hr.alloc _) (by omega) hi)
  have hsr : Sl w (w.heap.size + 1) AR cR R := ⟨hR, hL2, hRc, hRm, (by
    rcases Nat.eq_zero_or_pos R.length with h0 | h0
    · exact .inl h0
    · obtain ⟨b, off, e, hb, _⟩ := hR 0 h0
      exact .inr (fun a ha => by rw [e] at ha; cases ha; simp; omega))⟩
  have H1 := Lib.hid h1
  have H2 := Lib.hid h2
  have H3 := Lib.hid h3
  clear hr hi hR h1 h2 h3
  go_enter Try.func5, Try.ntmps5
  go_wp2_with fail
  refine (HL.out _).mono ?_
  rintro e w0 ⟨rfl, rfl⟩
  go_wp2_with fail
  refine HR.out.mono ?_
  rintro e w1 ⟨rfl, hd1, hb1⟩
  have z1 : (w.alloc (.cells (c4 d) 34)).heap.size = w.heap.size + 1 := by simp
  rw [z1] at hd1
  have bd1 : Bk w1 w.heap.size 34 (c4 d) := Mw.Bk.old (by (repeat (first | ((with_reducible refine Mw.Bk.new' ?_); (first | rfl | (simp; done) | (simp; omega))) | with_reducible refine Mw.Bk.alloc ?_ _ | with_reducible refine Mw.Bk.drewN ?_ _ | with_reducible refine Mw.Bk.drew ?_ | with_reducible assumption))) hb1
  have sr1 := (hsr.alloc (.cells (c4 d) 34)).old hb1
  have be1 : Below w.heap.size w w1 := bl_trans (by (repeat (first | with_reducible exact Below.refl _ _ | with_reducible refine bl_drewN ?_ _ | with_reducible refine Below.drew ?_ | with_reducible refine bl_alloc ?_ _ | with_reducible refine Below.alloc ?_ (by first | omega | (simp; done) | (simp; omega)) _ | with_reducible refine Below.setCell ?_ (by first | omega | (simp; done) | (simp; omega)) _ | with_reducible assumption))) hb1
  clear hb1 hsr z1
  go_wp2_with fail
  refine (next_any (w.heap.size + 1) 20 _ hd1 (by omega) (by omega)).mono ?_
  rintro e w2 ⟨n0, hn0, rfl, hd2, hg2⟩
  have bd2 := bd1.kept hg2 (by omega)
  have sr2 := sr1.turn hg2
  have be2 : Below w.heap.size w w2 := bl_gb be1 hg2 (by omega)
  clear hd1 bd1 sr1 be1 hg2
  obtain ⟨n, rfl⟩ := Int.eq_ofNat_of_zero_le hn0.1
  have hn1 : n < 20 := by omega
  clear hn0
  go_wp2_with fail
  refine (digests_any (w.heap.size + 1) n _ hd2 (by omega)).mono ?_
  rintro e w3 ⟨l, AL, cL, hlen, rfl, hlc, hcm, hl, hAL, hd3, hg3⟩
  have hE3 : EW w w3 (w.heap.size + 1) d AL cL l AR cR R := ⟨hd3, bd2.kept hg3 (by omega), sl_new hl (by omega) hlc hcm hAL hd2.lt, sr2.turn hg3, bl_gb be2 hg3 (by omega), rfl⟩
  clear hd2 bd2 sr2 be2 hg3 hd3 hl hAL hlc hcm
  have Hlen := Lib.hid hlen
  clear hlen
  obtain ⟨⟨k0, k1, k2, k3⟩, -⟩ := bk4 hE3.bd
  have g0 := hE3.bd.lt
  have R1 : RC 13 #[.agg #[.int .u32 d.1, .int .u32 d.2.1, .int .u32 d.2.2.1, .int .u32 d.2.2.2]] w3 (dv (leaf d)) := rc_leaf _
  have R2 : RC 16 #[.agg #[.int .u32 d.1, .int .u32 d.2.1, .int .u32 d.2.2.1, .int .u32 d.2.2.2]] w3 (dv (leaf d)) := RC.of fun W _ => rleaf_any d W
  have R3 : RC 18 #[.int .i64 ix] w3 (.int .i64 (splI ix)) := RC.same fun W => split_any ix H1.out W
  have R4 : RC 22 #[.int .i64 ix] w3 (.int .i64 (splI ix)) := RC.same fun W => rsplit_any ix H1.out W
  have R5 : RC 18 #[.int .i64 (n : Int)] w3 (.int .i64 (splI (n : Int))) := RC.same fun W => split_any _ (I64n _ (by omega)) W
  have R6 : RC 22 #[.int .i64 (n : Int)] w3 (.int .i64 (splI (n : Int))) := RC.same fun W => rsplit_any _ (I64n _ (by omega)) W
  generalize leaf d = Y at R1 R2
  have x1 : eqb (Y.1, Y.2.1, Y.2.2.1, Y.2.2.2) (Y.1, Y.2.1, Y.2.2.1, Y.2.2.2) = true := eqb_self _
  generalize splI ix = sx at R3 R4
  generalize splI (n : Int) = sn at R5 R6
  go_wp2_with fail
  refine Mm.region_ext (by kernel_rfl) (by kernel_rfl) ?_; (repeat (first | go_big_quiet_step ((exact RC.call (by with_reducible assumption) _)) | quiet_step ((exact RC.call (by with_reducible assumption) _)))); refine wpQuiet_nil ?_
  intro w4 hb4
  have hE4 := hE3.old hb4
  clear hE3 hb4 R1 R2 R3 R4 R5 R6 k0 k1 k2 k3 x1 g0
  go_wp2_with fail
  go_loopw [74] (fun i wr => ∃ k : Nat, k ≤ 2 ∧ i = .int .i64 k ∧ EW w wr (w.heap.size + 1) d AL cL l AR cR R) (fun i _ => 2 - (intOf i).toNat)
  case atStart => exact ⟨0, by omega, rfl, hE4⟩
  case round =>
    clear hE4
    obtain ⟨k, hk, rfl, hE⟩ := hrel
    by_cases hlt : k < 2
    · obtain ⟨X, cX, x, hX, hix⟩ := pick2 hE.sl hE.sr k hlt
      have hbk : decide ((k : Int) < 2) = true := decide_eq_true (by omega)
      have hxl := hX.len
      go_wp2_with fail
      clear hix
      refine (proot_ind _ x X cX _ (Nat.le_refl _) (by omega) hX.cap hX.max hX.rd).mono ?_
      rintro e w5 ⟨rfl, hb5⟩
      have hE5 := hE.old hb5
      have hX5 := hX.old hb5
      clear hE hX hb5
      go_wp2_with fail
      refine (rroot_ind _ x X cX _ (Nat.le_refl _) (by omega) hX5.cap hX5.max hX5.rd).mono ?_
      rintro e w6 ⟨rfl, hb6⟩
      have hE6 := hE5.old hb6
      have hX6 := hX5.old hb6
      clear hE5 hX5 hb6
      have x1 := eqb_self ((root x).1, (root x).2.1, (root x).2.2.1, (root x).2.2.2)
      go_wp2_with fail
      clear x1
      refine (next_any (w.heap.size + 1) 20 _ hE6.di (by omega) (by omega)).mono ?_
      rintro e w7 ⟨v, hv, rfl, hd7, hg7⟩
      have hE7 := hE6.turn hg7 hd7
      have hX7 := hX6.turn hg7
      clear hE6 hX6 hg7 hd7
      obtain ⟨hv0, hv1⟩ := hv
      go_wp2_with fail
      obtain ⟨wo, hwo⟩ : ∃ wo : World, wo = wr := ⟨_, rfl⟩
      subst hwo
      go_loopw [88] (fun i wr2 => ∃ q : Nat, q ≤ 4 ∧ i = .int .i64 q ∧ EW w wr2 (w.heap.size + 1) d AL cL l AR cR R ∧ Sl wr2 (w.heap.size + 1) X cX x) (fun i _ => 4 - (intOf i).toNat)
      case atStart => exact ⟨0, by omega, rfl, hE7, hX7⟩
      case round =>
        clear hE7 hX7
        obtain ⟨q, hq, rfl, hE, hX⟩ := hrel
        by_cases hlt2 : q < 4
        · obtain ⟨i, hi, hiy⟩ := pickI4 H1.out (i64s (x := v - 1) (by omega) (by omega)) (i64s (x := 0) (by omega) (by omega)) H3.out q hlt2
          have Hi := Lib.hid hi
          have hbk2 : decide ((q : Int) < 4) = true := decide_eq_true (by omega)
          clear hi
          go_wp2_with fail
          clear hiy
          refine (ppath_new x X cX i _ (by omega) hX.cap hX.max hX.rd).mono ?_
          rintro e w8 ⟨P, cP, rfl, p1, p2, p3, p4, hb8⟩
          have hE8 := hE.old hb8
          have hX8 := hX.old hb8
          clear hE hX hb8 p4
          go_wp2_with fail
          refine (rpath_new x X cX i _ (by omega) hX8.cap hX8.max hX8.rd).mono ?_
          rintro e w9 ⟨Q, cQ, rfl, q1, q2, q3, q4, hb9⟩
          have hQ9 : Sl w9 (w.heap.size + 1) Q cQ (pathE x i).1 := sl_new q3 (pathE_len x i hxl) q1 q2 q4 hE8.di.lt
          have hE9 := hE8.old hb9
          have hX9 := hX8.old hb9
          have p5 := p3.old hb9
          clear hE8 hX8 hb9 p3 q1 q2 q3 q4
          go_wp2_with fail
          refine (pcons_new x X cX i _ (by omega) hX9.cap hX9.max hX9.rd).mono ?_
          rintro e w10 ⟨U, cU, rfl, u1, u2, u3, u4, hb10⟩
          have hE10 := hE9.old hb10
          have hX10 := hX9.old hb10
          have hQ10 := hQ9.old hb10
          have p6 := p5.old hb10
          clear hE9 hX9 hQ9 p5 hb10 u4
          go_wp2_with fail
          refine (rcons_new x X cX i _ (by omega) hX10.cap hX10.max hX10.rd).mono ?_
          rintro e w11 ⟨V, cV, rfl, v1, v2, v3, v4, hb11⟩
          have hV11 : Sl w11 (w.heap.size + 1) V cV (consE x i).1 := sl_new v3 (consE_len x i hxl) v1 v2 v4 hE10.di.lt
          have hE11 := hE10.old hb11
          have hX11 := hX10.old hb11
          have hQ11 := hQ10.old hb11
          have p7 := p6.old hb11
          have u5 := u3.old hb11
          clear hE10 hX10 hQ10 p6 u3 hb11 v1 v2 v3 v4
          go_wp2_with fail
          refine (same_true (pathE x i).1 P Q cP cQ _ (by have := hQ11.len; omega) p7 hQ11.rd).mono ?_
          rintro e w12 ⟨rfl, hb12⟩
          have hE12 := hE11.old hb12
          have hX12 := hX11.old hb12
          have hQ12 := hQ11.old hb12
          have hV12 := hV11.old hb12
          have u6 := u5.old hb12
          clear hE11 hX11 hQ11 hV11 p7 u5 hb12 p1 p2
          go_wp2_with fail
          refine (same_true (consE x i).1 U V cU cV _ (by have := hV12.len; omega) u6 hV12.rd).mono ?_
          rintro e w13 ⟨rfl, hb13⟩
          have hE13 := hE12.old hb13
          have hX13 := hX12.old hb13
          have hQ13 := hQ12.old hb13
          have hV13 := hV12.old hb13
          clear hE12 hX12 hQ12 hV12 u6 hb13 u1 u2
          go_wp2_with fail
          refine (next_any (w.heap.size + 1) 30 _ hE13.di (by omega) (by omega)).mono ?_
          rintro e w14 ⟨s30, hs30, rfl, hd14, hg14⟩
          have hE14 := hE13.turn hg14 hd14
          have hX14 := hX13.turn hg14
          have hQ14 := hQ13.turn hg14
          have hV14 := hV13.turn hg14
          clear hE13 hX13 hQ13 hV13 hg14 hd14
          obtain ⟨hs0, hs1⟩ := hs30
          go_wp2_with fail
          generalize hgp : (pathE x i).1 = pl at hQ14 ⊢
          generalize hgc : (consE x i).1 = cl at hV14 ⊢
          generalize (pathE x i).2 = pe at *
          generalize (consE x i).2 = ce at *
          clear hgp hgc
          obtain ⟨wo2, hwo2⟩ : ∃ wo2 : World, wo2 = wr := ⟨_, rfl⟩
          subst hwo2
          go_loopw [141] (fun i wr3 => ∃ m : Nat, m ≤ 3 ∧ i = .int .i64 m ∧ EW w wr3 (w.heap.size + 1) d AL cL l AR cR R ∧ Sl wr3 (w.heap.size + 1) X cX x ∧ Sl wr3 (w.heap.size + 1) Q cQ pl ∧ Sl wr3 (w.heap.size + 1) V cV cl) (fun i _ => 3 - (intOf i).toNat)
          case atStart => exact ⟨0, by omega, rfl, hE14, hX14, hQ14, hV14⟩
          case round =>
            clear hE14 hX14 hQ14 hV14
            obtain ⟨m, hm, rfl, hE, hX, hQ, hV⟩ := hrel
            by_cases hlt3 : m < 3
            · obtain ⟨s, hs, hsy⟩ := pickI3 H2.out (I64n x.length (by omega)) (i64s (x := s30) (by omega) (by omega)) m hlt3
              have Hs := Lib.hid hs
              have hbk3 : decide ((m : Int) < 3) = true := decide_eq_true (by omega)
              clear hs
              go_wp2_with fail
              clear hsy
              obtain ⟨wo3, hwo3⟩ : ∃ wo3 : World, wo3 = wr := ⟨_, rfl⟩
              subst hwo3
              go_loopw [148] (fun i wr4 => ∃ t : Nat, t ≤ 3 ∧ i = .int .i64 t ∧ EW w wr4 (w.heap.size + 1) d AL cL l AR cR R ∧ Sl wr4 (w.heap.size + 1) X cX x ∧ Sl wr4 (w.heap.size + 1) Q cQ pl ∧ Sl wr4 (w.heap.size + 1) V cV cl) (fun i _ => 3 - (intOf i).toNat)
              case atStart => exact ⟨0, by omega, rfl, hE, hX, hQ, hV⟩
              case round =>
                clear hE hX hQ hV
                obtain ⟨t, ht, rfl, hE, hX, hQ, hV⟩ := hrel
                by_cases hlt4 : t < 3
                · obtain ⟨Y, cY, y, hY, hyy⟩ := pick3 hQ hE.sr hV t hlt4
                  have hbk4 : decide ((t : Int) < 3) = true := decide_eq_true (by omega)
                  have hyl := hY.len
                  obtain ⟨⟨k0, k1, k2, k3⟩, -⟩ := bk4 hE.bd
                  go_wp2_with fail
                  clear hyy k0 k1 k2 k3
                  refine (plead_any d i s y Y cY _ (by omega) hY.cap hY.max hY.rd).mono ?_
                  rintro e w15 ⟨rfl, hb15⟩
                  have hE15 := hE.old hb15
                  have hX15 := hX.old hb15
                  have hQ15 := hQ.old hb15
                  have hV15 := hV.old hb15
                  have hY15 := hY.old hb15
                  clear hE hX hQ hV hY hb15
                  have HF := Lib.hid (show ∀ W : World, RdD W Y y → Calls Try.prog 15 #[dv d, .int .i64 i, .int .i64 s, .slice Y y.length cY] W (LE (leadE d i s y) W) from fun W hr => rlead_any d i s y Y cY W (by omega) hY15.cap hY15.max hr)
                  generalize leadE d i s y = Z at HF ⊢
                  obtain ⟨⟨k0, k1, k2, k3⟩, -⟩ := bk4 hE15.bd
                  have g0 := hE15.bd.lt
                  go_wp2_with fail
                  clear k0 k1 k2 k3 g0
                  refine (HF.out _ (hY15.rd.alloc _)).mono ?_
                  rintro e w16 ⟨rfl, hb16⟩
                  have hE16 := (hE15.alloc _).old hb16
                  have hX16 := (hX15.alloc _).old hb16
                  have hQ16 := (hQ15.alloc _).old hb16
                  have hV16 := (hV15.alloc _).old hb16
                  have hY16 := (hY15.alloc _).old hb16
                  have hZ16 : Bk w16 w15.heap.size 34 (c4 Z.1) := (Mw.Bk.new _ _ _).old hb16
                  clear hE15 hX15 hQ15 hV15 hY15 hb16 HF
                  have R1 : RC 17 #[.slice X x.length cX] (w16.alloc (.cells (c4 Z.1) 34)) (dv (root x)) := rc_rroot rfl (by omega) hX16.cap hX16.max (hX16.rd.alloc _)
                  have R2 : RC 27 #[.int .i64 i, .int .i64 s, .agg #[.int .u32 d.1, .int .u32 d.2.1, .int .u32 d.2.2.1, .int .u32 d.2.2.2], dv (root x), .slice Y y.length cY] (w16.alloc (.cells (c4 Z.1) 34)) (.bool (consB i s d (root x) y)) := RC.of fun W hW => pconsist_any i s d (root x) y Y cY W (by omega) hY16.cap hY16.max ((hY16.rd.alloc _).old hW)
                  have R3 : RC 28 #[.int .i64 i, .int .i64 s, .agg #[.int .u32 d.1, .int .u32 d.2.1, .int .u32 d.2.2.1, .int .u32 d.2.2.2], dv (root x), .slice Y y.length cY] (w16.alloc (.cells (c4 Z.1) 34)) (.bool (consB i s d (root x) y)) := RC.of fun W hW => rconsist_any i s d (root x) y Y cY W (by omega) hY16.cap hY16.max ((hY16.rd.alloc _).old hW)
                  generalize consB i s d (root x) y = cb at R2 R3
                  obtain ⟨⟨k0, k1, k2, k3⟩, -⟩ := bk4 hE16.bd
                  obtain ⟨⟨j0, j1, j2, j3⟩, -⟩ := bk4 hZ16
                  have g0 := hE16.bd.lt
                  have g1 := hZ16.lt
                  have x1 := eqb_self (Z.1.1, Z.1.2.1, Z.1.2.2.1, Z.1.2.2.2)
                  have x2 : (cb != cb) = false := by cases cb <;> rfl
                  go_wp2_with fail
                  refine Mm.region_ext (by kernel_rfl) (by kernel_rfl) ?_; (repeat (first | go_big_quiet_step ((exact RC.call (by with_reducible assumption) _)) | quiet_step ((exact RC.call (by with_reducible assumption) _)))); refine wpQuiet_nil ?_
                  intro w17 hb17
                  have hE17 := (hE16.alloc _).old hb17
                  have hX17 := (hX16.alloc _).old hb17
                  have hQ17 := (hQ16.alloc _).old hb17
                  have hV17 := (hV16.alloc _).old hb17
                  clear hE16 hX16 hQ16 hV16 hY16 hZ16 hb17 R1 R2 R3 k0 k1 k2 k3 j0 j1 j2 j3 g0 g1 x1 x2
                  go_wp2_with fail
                  go_roundw
                  case rel => exact ⟨t + 1, by omega, by go_num, hE17, hX17, hQ17, hV17⟩
                  case measure => simp [intOf]; omega
                · have hbk4 : decide ((t : Int) < 3) = false := decide_eq_false (by omega)
                  go_wp2_with fail
                  go_roundw
                  case rel => exact ⟨m + 1, by omega, by go_num, hE, hX, hQ, hV⟩
                  case measure => simp [intOf]; omega
            · have hbk3 : decide ((m : Int) < 3) = false := decide_eq_false (by omega)
              by_cases hg : 0 < i ∧ i ≤ (x.length : Int)
              · obtain ⟨hg1, hg2⟩ := hg
                obtain ⟨j, rfl⟩ := Int.eq_ofNat_of_zero_le (show 0 ≤ i by omega)
                obtain ⟨b, off, rfl, hbl, -⟩ := hX.rd.at 0 (by omega)
                have R1 : RC 17 #[.slice (some ⟨b, off, none⟩) x.length cX] wr (dv (root x)) := rc_rroot rfl (by omega) hX.cap hX.max hX.rd
                have R0 : RC 17 #[.slice (some ⟨b, off, none⟩) j cX] wr (dv (root (x.take j))) := rc_rroot (by simp; omega) (by omega) (by have := hX.cap; omega) hX.max (hX.rd.take j)
                have R2 : RC 27 #[.int .i64 (j : Int), .int .i64 (x.length : Int), dv (root (x.take j)), dv (root x), .slice V cl.length cV] wr (.bool (consB (j : Int) (x.length : Int) (root (x.take j)) (root x) cl)) := RC.of fun W hW => pconsist_any _ _ _ _ cl V cV W (by have := hV.len; omega) hV.cap hV.max (hV.rd.old hW)
                have R3 : RC 28 #[.int .i64 (j : Int), .int .i64 (x.length : Int), dv (root (x.take j)), dv (root x), .slice V cl.length cV] wr (.bool (consB (j : Int) (x.length : Int) (root (x.take j)) (root x) cl)) := RC.of fun W hW => rconsist_any _ _ _ _ cl V cV W (by have := hV.len; omega) hV.cap hV.max (hV.rd.old hW)
                generalize consB (j : Int) (x.length : Int) (root (x.take j)) (root x) cl = cb at R2 R3
                generalize root (x.take j) = G0 at R0 R2 R3
                have x2 : (cb != cb) = false := by cases cb <;> rfl
                have y1 : decide ((0 : Int) < (j : Int)) = true := decide_eq_true (by omega)
                have y2 : decide (j ≤ x.length) = true := decide_eq_true (by omega)
                have y2' : decide (0 < j) = true := decide_eq_true (by omega)
                have y3 : (0 : Int) ≤ (j : Int) := by omega
                have y4 : (j : Int) ≤ (x.length : Int) := by omega
                have y5 : (j : Int) ≤ (cX : Int) := by have := hX.cap; omega
                go_wp2_with fail
                refine Mm.region_ext (by kernel_rfl) (by kernel_rfl) ?_; (repeat (first | go_big_quiet_step ((exact RC.call (by with_reducible assumption) _)) | quiet_step ((exact RC.call (by with_reducible assumption) _)))); refine wpQuiet_nil ?_
                intro w18 hb18
                have hE18 := hE.old hb18
                have hX18 := hX.old hb18
                clear hE hX hQ hV hb18 R0 R1 R2 R3 x2
                go_wp2_with fail
                go_roundw
                case rel => exact ⟨q + 1, by omega, by go_num, hE18, hX18⟩
                case measure => simp [intOf]; omega
              · by_cases hg0 : 0 < i
                · have y1 : decide ((0 : Int) < i) = true := decide_eq_true (by omega)
                  have y2 : decide (i ≤ (x.length : Int)) = false := decide_eq_false (by omega)
                  go_wp2_with fail
                  refine Mm.region_ext (by kernel_rfl) (by kernel_rfl) ?_; (repeat (first | go_big_quiet_step ((exact RC.call (by with_reducible assumption) _)) | quiet_step ((exact RC.call (by with_reducible assumption) _)))); refine wpQuiet_nil ?_
                  intro w18 hb18
                  have hE18 := hE.old hb18
                  have hX18 := hX.old hb18
                  clear hE hX hQ hV hb18
                  go_wp2_with fail
                  go_roundw
                  case rel => exact ⟨q + 1, by omega, by go_num, hE18, hX18⟩
                  case measure => simp [intOf]; omega
                · have y1 : decide ((0 : Int) < i) = false := decide_eq_false (by omega)
                  go_wp2_with fail
                  refine Mm.region_ext (by kernel_rfl) (by kernel_rfl) ?_; (repeat (first | go_big_quiet_step ((exact RC.call (by with_reducible assumption) _)) | quiet_step ((exact RC.call (by with_reducible assumption) _)))); refine wpQuiet_nil ?_
                  intro w18 hb18
                  have hE18 := hE.old hb18
                  have hX18 := hX.old hb18
                  clear hE hX hQ hV hb18
                  go_wp2_with fail
                  go_roundw
                  case rel => exact ⟨q + 1, by omega, by go_num, hE18, hX18⟩
                  case measure => simp [intOf]; omega
        · have hbk2 : decide ((q : Int) < 4) = false := decide_eq_false (by omega)
          go_wp2_with fail
          go_roundw
          case rel => exact ⟨k + 1, by omega, by go_num, hE⟩
          case measure => simp [intOf]; omega
    · have hbk : decide ((k : Int) < 2) = false := decide_eq_false (by omega)
      go_wp2_with fail
      refine (sane_any _).mono ?_
      rintro e w9 ⟨rfl, hb9⟩
      go_wp2_with fail
      go_ret
      exact ⟨rfl, bl_trans hE.be hb9⟩
end Go.Proofs.Ytmdgghdmfipllaa.Tr
