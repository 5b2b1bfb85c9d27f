/- Walk: the statement SignatureExact. -/
import Derived.Test.YtjejganeladheaaSF
import Derived.WalkKit
import Derived.WalkSpells
import Derived.WalkLawsBesides
import Derived.Deep.QuietTactic
import Derived.BigQuiet
import Derived.Deep.Draws
import Derived.Deep.AppendLies
import Derived.Laws.OwnMore
import Derived.Laws.BytesArg
import Derived.Lib.Hide
import Derived.Deep.LoopGhost
namespace Go.Proofs.Ytjejganeladheaa.Sg
open Go.RowKit Go.Proofs.Ytjejganeladheaa.Dg Go.Proofs.Ytjejganeladheaa.Nt
open Go.Proofs.Ytjejganeladheaa.Mw (I64 ret_int ret_bool Bk bl_trans own_ints)
set_option linter.unusedVariables false

/-- What Sign returns. -/
theorem sign_both (s : Int) (d : St) (hs : I64 s) (hd : Wd d) : ∃ R S e : Int, I64 R ∧ I64 S ∧ Rets 11 #[.int .i64 s, dv d] (.tuple #[sgv R S, .int .i64 e]) ∧ Rets 12 #[.int .i64 s, dv d] (.tuple #[sgv R S, .int .i64 e]) := by
  cases hv : val s
  · exact ⟨0, 0, 2, by unfold I64; omega, by unfold I64; omega, fun w => sign_no s d hs hv w, fun w => rsign_no s d hs hv w⟩
  · exact ⟨sR s d, sS s d, 0, I64_sR _ _, I64_sS _ _, fun w => sign_yes s d hv hd w, fun w => rsign_yes s d hv hd w⟩
theorem pair_0 (a b c d e f : Int) (w : World) : (Instr.index 35 (.agg #[.int .i64 a, .int .i64 b, .int .i64 c, .int .i64 d, .int .i64 e, .int .i64 f]) (.int .i64 0)).run Try.prog w = .ok (.agg #[.int .i64 a, .int .i64 b]) w := by kernel_rfl
theorem pair_1 (a b c d e f : Int) (w : World) : (Instr.index 35 (.agg #[.int .i64 a, .int .i64 b, .int .i64 c, .int .i64 d, .int .i64 e, .int .i64 f]) (.int .i64 1)).run Try.prog w = .ok (.agg #[.int .i64 c, .int .i64 d]) w := by kernel_rfl
theorem pair_2 (a b c d e f : Int) (w : World) : (Instr.index 35 (.agg #[.int .i64 a, .int .i64 b, .int .i64 c, .int .i64 d, .int .i64 e, .int .i64 f]) (.int .i64 2)).run Try.prog w = .ok (.agg #[.int .i64 e, .int .i64 f]) w := by kernel_rfl
/-- One of three. -/
def tri (k : Nat) (a b c : Int) : Int := if k = 0 then a else if k = 1 then b else c
theorem tri_I (k : Nat) (a b c : Int) (ha : I64 a) (hb : I64 b) (hc : I64 c) : I64 (tri k a b c) := by
  unfold tri
  split
  · exact ha
  split
  · exact hb
  · exact hc
theorem pair_at (a b c d e f : Int) (k : Nat) (hk : k < 3) (w : World) : (Instr.index 35 (.agg #[.int .i64 a, .int .i64 b, .int .i64 c, .int .i64 d, .int .i64 e, .int .i64 f]) (.int .i64 k)).run Try.prog w = .ok (.agg #[.int .i64 (tri k a c e), .int .i64 (tri k b d f)]) w := by
  have : k = 0 ∨ k = 1 ∨ k = 2 := by omega
  rcases this with h | h | h <;> subst h
  · exact pair_0 a b c d e f w
  · exact pair_1 a b c d e f w
  · exact pair_2 a b c d e f w

set_option maxHeartbeats 2000000 in
set_option maxRecDepth 100000 in
theorem exact_any (x n secret R0 S0 : Int) (d : St) (hx : I64 x) (hn : I64 n) (hs : I64 secret) (hR0 : I64 R0) (hS0 : I64 S0) (hd : Wd d) (w : World) :
    Calls Try.prog 3 #[.int .i64 x, .int .i64 n, .int .i64 secret, dv d, sgv R0 S0] w fun e w' => e = .returned (.bool true) ∧ Below w.heap.size w w' := by
  obtain ⟨u, hu⟩ : ∃ u, u = ky secret := ⟨_, rfl⟩
  have hub := ky_bd secret
  rw [← hu] at hub
  have Hu := Lib.hid (show RetsQ 8 #[.int .i64 secret, .int .i64 1073741788] (.int .i64 u) from fun w => by rw [hu]; exact mod_ky secret hs w)
  obtain ⟨u0, u1⟩ := hub
  clear hu
  obtain ⟨pk, hpk⟩ : ∃ pk, pk = pubk secret := ⟨_, rfl⟩
  obtain ⟨pe, hpe⟩ : ∃ pe, pe = pube secret := ⟨_, rfl⟩
  have P1 := Lib.hid (show RetsQ 9 #[.int .i64 secret] (.tuple #[.int .i64 pk, .int .i64 pe]) from fun w => by rw [hpk, hpe]; exact public_any secret hs w)
  have P2 := Lib.hid (show RetsQ 10 #[.int .i64 secret] (.tuple #[.int .i64 pk, .int .i64 pe]) from fun w => by rw [hpk, hpe]; exact rpublic_any secret hs w)
  clear hpk hpe
  obtain ⟨R1, S1, e1, iR1, iS1, hs1, hs2⟩ := sign_both secret d hs hd
  obtain ⟨R2, S2, e2, iR2, iS2, hs3, hs4⟩ := sign_both (1 + u) d (by unfold I64; omega) hd
  have Hs1 := Lib.hid hs1
  have Hs2 := Lib.hid hs2
  have Hs3 := Lib.hid hs3
  have Hs4 := Lib.hid hs4
  have Hval := Lib.hid (show val (1 + u) = true from decide_eq_true (by omega))
  have Hx := Lib.hid hx
  have Hn := Lib.hid hn
  have Hd := Lib.hid hd
  have HR0 := Lib.hid hR0
  have HS0 := Lib.hid hS0
  have HR2 := Lib.hid iR2
  have HS2 := Lib.hid iS2
  clear hs1 hs2 hs3 hs4 hd hR0 hS0 iR1 iR2 iS1 iS2 hs hx hn
  go_enter Try.func3, Try.ntmps3
  go_wp2_with fail
  refine (Hu.out _).mono ?_
  rintro e w0 ⟨rfl, rfl⟩
  go_wp2_with fail
  refine (P1.out _).mono ?_
  rintro e w0 ⟨rfl, rfl⟩
  go_wp2_with fail
  refine (P2.out _).mono ?_
  rintro e w0 ⟨rfl, rfl⟩
  go_wp2_with fail
  refine (Hs1.out _).mono ?_
  rintro e w1 ⟨rfl, hb1⟩
  have hD1 : Bk w1 w.heap.size 24 (c4 d) := Mw.Bk.old (by (repeat (first | ((with_reducible refine Mw.Bk.new' ?_); (first | rfl | (simp; done) | (simp; omega))) | with_reducible refine Mw.Bk.alloc ?_ _ | with_reducible refine Mw.Bk.drewN ?_ _ | with_reducible refine Mw.Bk.drew ?_ | with_reducible assumption))) hb1
  have hO1 : Bk w1 (w.heap.size + 1) 26 #[.int .i64 R0, .int .i64 S0] := Mw.Bk.old (by (repeat (first | ((with_reducible refine Mw.Bk.new' ?_); (first | rfl | (simp; done) | (simp; omega))) | with_reducible refine Mw.Bk.alloc ?_ _ | with_reducible refine Mw.Bk.drewN ?_ _ | with_reducible refine Mw.Bk.drew ?_ | with_reducible assumption))) hb1
  have hc1 : Below w.heap.size w w1 := bl_trans (by (repeat (first | with_reducible exact Below.refl _ _ | with_reducible refine bl_drewN ?_ _ | with_reducible refine Below.drew ?_ | with_reducible refine bl_alloc ?_ _ | with_reducible refine Below.alloc ?_ (by first | omega | (simp; done) | (simp; omega)) _ | with_reducible refine Below.setCell ?_ (by first | omega | (simp; done) | (simp; omega)) _ | with_reducible assumption))) hb1
  clear hb1
  have z1 := hD1.lt
  obtain ⟨k0, k1, k2, k3⟩ := bk4 hD1
  go_wp2_with fail
  refine (Hs2.out _).mono ?_
  rintro e w2 ⟨rfl, hb2⟩
  have hD2 : Bk w2 w.heap.size 24 (c4 d) := Mw.Bk.old (by (repeat (first | with_reducible assumption | ((with_reducible refine Mw.Bk.new' ?_); (first | rfl | (simp; done) | (simp; omega))) | with_reducible refine Mw.Bk.alloc ?_ _ | with_reducible refine Mw.Bk.drew ?_ | with_reducible refine Mw.Bk.drewN ?_ _ | with_reducible refine Mw.Bk.set4 (a0 := .int .u32 0) (a1 := .int .u32 0) (a2 := .int .u32 0) (a3 := .int .u32 0) ?_ | ((with_reducible refine Mw.Bk.far ?_ ?_ _); rotate_left 1; focus (first | omega | (simp; done) | (simp; omega))) | with_reducible refine Mw.Bk.old ?_ (by assumption)))) hb2
  have hO2 : Bk w2 (w.heap.size + 1) 26 #[.int .i64 R0, .int .i64 S0] := Mw.Bk.old (by (repeat (first | with_reducible assumption | ((with_reducible refine Mw.Bk.new' ?_); (first | rfl | (simp; done) | (simp; omega))) | with_reducible refine Mw.Bk.alloc ?_ _ | with_reducible refine Mw.Bk.drew ?_ | with_reducible refine Mw.Bk.drewN ?_ _ | with_reducible refine Mw.Bk.set4 (a0 := .int .u32 0) (a1 := .int .u32 0) (a2 := .int .u32 0) (a3 := .int .u32 0) ?_ | ((with_reducible refine Mw.Bk.far ?_ ?_ _); rotate_left 1; focus (first | omega | (simp; done) | (simp; omega))) | with_reducible refine Mw.Bk.old ?_ (by assumption)))) hb2
  have hA2 : Bk w2 w1.heap.size 26 #[.int .i64 R1, .int .i64 S1] := Mw.Bk.old (by (repeat (first | with_reducible assumption | ((with_reducible refine Mw.Bk.new' ?_); (first | rfl | (simp; done) | (simp; omega))) | with_reducible refine Mw.Bk.alloc ?_ _ | with_reducible refine Mw.Bk.drew ?_ | with_reducible refine Mw.Bk.drewN ?_ _ | with_reducible refine Mw.Bk.set4 (a0 := .int .u32 0) (a1 := .int .u32 0) (a2 := .int .u32 0) (a3 := .int .u32 0) ?_ | ((with_reducible refine Mw.Bk.far ?_ ?_ _); rotate_left 1; focus (first | omega | (simp; done) | (simp; omega))) | with_reducible refine Mw.Bk.old ?_ (by assumption)))) hb2
  have hc2 : Below w.heap.size w w2 := bl_trans (by (repeat (first | with_reducible exact Below.refl _ _ | with_reducible refine bl_drewN ?_ _ | with_reducible refine Below.drew ?_ | with_reducible refine bl_alloc ?_ _ | with_reducible refine Below.alloc ?_ (by first | omega | (simp; done) | (simp; omega)) _ | with_reducible refine Below.setCell ?_ (by first | omega | (simp; done) | (simp; omega)) _ | with_reducible assumption))) hb2
  clear hb2 hD1 hO1 hc1 k0 k1 k2 k3
  obtain ⟨k0, k1, k2, k3⟩ := bk4 hD2
  have z2 := hA2.lt
  have z2a : w.heap.size < w2.heap.size := by omega
  go_wp2_with fail
  refine (Hs3.out _).mono ?_
  rintro e w3 ⟨rfl, hb3⟩
  have hD3 : Bk w3 w.heap.size 24 (c4 d) := Mw.Bk.old (by (repeat (first | with_reducible assumption | ((with_reducible refine Mw.Bk.new' ?_); (first | rfl | (simp; done) | (simp; omega))) | with_reducible refine Mw.Bk.alloc ?_ _ | with_reducible refine Mw.Bk.drew ?_ | with_reducible refine Mw.Bk.drewN ?_ _ | with_reducible refine Mw.Bk.set4 (a0 := .int .u32 0) (a1 := .int .u32 0) (a2 := .int .u32 0) (a3 := .int .u32 0) ?_ | ((with_reducible refine Mw.Bk.far ?_ ?_ _); rotate_left 1; focus (first | omega | (simp; done) | (simp; omega))) | with_reducible refine Mw.Bk.old ?_ (by assumption)))) hb3
  have hO3 : Bk w3 (w.heap.size + 1) 26 #[.int .i64 R0, .int .i64 S0] := Mw.Bk.old (by (repeat (first | with_reducible assumption | ((with_reducible refine Mw.Bk.new' ?_); (first | rfl | (simp; done) | (simp; omega))) | with_reducible refine Mw.Bk.alloc ?_ _ | with_reducible refine Mw.Bk.drew ?_ | with_reducible refine Mw.Bk.drewN ?_ _ | with_reducible refine Mw.Bk.set4 (a0 := .int .u32 0) (a1 := .int .u32 0) (a2 := .int .u32 0) (a3 := .int .u32 0) ?_ | ((with_reducible refine Mw.Bk.far ?_ ?_ _); rotate_left 1; focus (first | omega | (simp; done) | (simp; omega))) | with_reducible refine Mw.Bk.old ?_ (by assumption)))) hb3
  have hA3 : Bk w3 w1.heap.size 26 #[.int .i64 R1, .int .i64 S1] := Mw.Bk.old (by (repeat (first | with_reducible assumption | ((with_reducible refine Mw.Bk.new' ?_); (first | rfl | (simp; done) | (simp; omega))) | with_reducible refine Mw.Bk.alloc ?_ _ | with_reducible refine Mw.Bk.drew ?_ | with_reducible refine Mw.Bk.drewN ?_ _ | with_reducible refine Mw.Bk.set4 (a0 := .int .u32 0) (a1 := .int .u32 0) (a2 := .int .u32 0) (a3 := .int .u32 0) ?_ | ((with_reducible refine Mw.Bk.far ?_ ?_ _); rotate_left 1; focus (first | omega | (simp; done) | (simp; omega))) | with_reducible refine Mw.Bk.old ?_ (by assumption)))) hb3
  have hB3 : Bk w3 w2.heap.size 26 #[.int .i64 R1, .int .i64 S1] := Mw.Bk.old (by (repeat (first | with_reducible assumption | ((with_reducible refine Mw.Bk.new' ?_); (first | rfl | (simp; done) | (simp; omega))) | with_reducible refine Mw.Bk.alloc ?_ _ | with_reducible refine Mw.Bk.drew ?_ | with_reducible refine Mw.Bk.drewN ?_ _ | with_reducible refine Mw.Bk.set4 (a0 := .int .u32 0) (a1 := .int .u32 0) (a2 := .int .u32 0) (a3 := .int .u32 0) ?_ | ((with_reducible refine Mw.Bk.far ?_ ?_ _); rotate_left 1; focus (first | omega | (simp; done) | (simp; omega))) | with_reducible refine Mw.Bk.old ?_ (by assumption)))) hb3
  have hc3 : Below w.heap.size w w3 := bl_trans (by (repeat (first | with_reducible exact Below.refl _ _ | with_reducible refine bl_drewN ?_ _ | with_reducible refine Below.drew ?_ | with_reducible refine bl_alloc ?_ _ | with_reducible refine Below.alloc ?_ (by first | omega | (simp; done) | (simp; omega)) _ | with_reducible refine Below.setCell ?_ (by first | omega | (simp; done) | (simp; omega)) _ | with_reducible assumption))) hb3
  clear hb3 hD2 hO2 hA2 hc2 k0 k1 k2 k3
  obtain ⟨k0, k1, k2, k3⟩ := bk4 hD3
  have z3 := hB3.lt
  have z3a : w.heap.size < w3.heap.size := by omega
  have z3b : w1.heap.size < w3.heap.size := by omega
  go_wp2_with fail
  refine (Hs4.out _).mono ?_
  rintro e w4 ⟨rfl, hb4⟩
  have hD4 : Bk w4 w.heap.size 24 (c4 d) := Mw.Bk.old (by (repeat (first | with_reducible assumption | ((with_reducible refine Mw.Bk.new' ?_); (first | rfl | (simp; done) | (simp; omega))) | with_reducible refine Mw.Bk.alloc ?_ _ | with_reducible refine Mw.Bk.drew ?_ | with_reducible refine Mw.Bk.drewN ?_ _ | with_reducible refine Mw.Bk.set4 (a0 := .int .u32 0) (a1 := .int .u32 0) (a2 := .int .u32 0) (a3 := .int .u32 0) ?_ | ((with_reducible refine Mw.Bk.far ?_ ?_ _); rotate_left 1; focus (first | omega | (simp; done) | (simp; omega))) | with_reducible refine Mw.Bk.old ?_ (by assumption)))) hb4
  have hO4 : Bk w4 (w.heap.size + 1) 26 #[.int .i64 R0, .int .i64 S0] := Mw.Bk.old (by (repeat (first | with_reducible assumption | ((with_reducible refine Mw.Bk.new' ?_); (first | rfl | (simp; done) | (simp; omega))) | with_reducible refine Mw.Bk.alloc ?_ _ | with_reducible refine Mw.Bk.drew ?_ | with_reducible refine Mw.Bk.drewN ?_ _ | with_reducible refine Mw.Bk.set4 (a0 := .int .u32 0) (a1 := .int .u32 0) (a2 := .int .u32 0) (a3 := .int .u32 0) ?_ | ((with_reducible refine Mw.Bk.far ?_ ?_ _); rotate_left 1; focus (first | omega | (simp; done) | (simp; omega))) | with_reducible refine Mw.Bk.old ?_ (by assumption)))) hb4
  have hA4 : Bk w4 w1.heap.size 26 #[.int .i64 R1, .int .i64 S1] := Mw.Bk.old (by (repeat (first | with_reducible assumption | ((with_reducible refine Mw.Bk.new' ?_); (first | rfl | (simp; done) | (simp; omega))) | with_reducible refine Mw.Bk.alloc ?_ _ | with_reducible refine Mw.Bk.drew ?_ | with_reducible refine Mw.Bk.drewN ?_ _ | with_reducible refine Mw.Bk.set4 (a0 := .int .u32 0) (a1 := .int .u32 0) (a2 := .int .u32 0) (a3 := .int .u32 0) ?_ | ((with_reducible refine Mw.Bk.far ?_ ?_ _); rotate_left 1; focus (first | omega | (simp; done) | (simp; omega))) | with_reducible refine Mw.Bk.old ?_ (by assumption)))) hb4
  have hB4 : Bk w4 w2.heap.size 26 #[.int .i64 R1, .int .i64 S1] := Mw.Bk.old (by (repeat (first | with_reducible assumption | ((with_reducible refine Mw.Bk.new' ?_); (first | rfl | (simp; done) | (simp; omega))) | with_reducible refine Mw.Bk.alloc ?_ _ | with_reducible refine Mw.Bk.drew ?_ | with_reducible refine Mw.Bk.drewN ?_ _ | with_reducible refine Mw.Bk.set4 (a0 := .int .u32 0) (a1 := .int .u32 0) (a2 := .int .u32 0) (a3 := .int .u32 0) ?_ | ((with_reducible refine Mw.Bk.far ?_ ?_ _); rotate_left 1; focus (first | omega | (simp; done) | (simp; omega))) | with_reducible refine Mw.Bk.old ?_ (by assumption)))) hb4
  have hC4 : Bk w4 w3.heap.size 26 #[.int .i64 R2, .int .i64 S2] := Mw.Bk.old (by (repeat (first | with_reducible assumption | ((with_reducible refine Mw.Bk.new' ?_); (first | rfl | (simp; done) | (simp; omega))) | with_reducible refine Mw.Bk.alloc ?_ _ | with_reducible refine Mw.Bk.drew ?_ | with_reducible refine Mw.Bk.drewN ?_ _ | with_reducible refine Mw.Bk.set4 (a0 := .int .u32 0) (a1 := .int .u32 0) (a2 := .int .u32 0) (a3 := .int .u32 0) ?_ | ((with_reducible refine Mw.Bk.far ?_ ?_ _); rotate_left 1; focus (first | omega | (simp; done) | (simp; omega))) | with_reducible refine Mw.Bk.old ?_ (by assumption)))) hb4
  have hc4 : Below w.heap.size w w4 := bl_trans (by (repeat (first | with_reducible exact Below.refl _ _ | with_reducible refine bl_drewN ?_ _ | with_reducible refine Below.drew ?_ | with_reducible refine bl_alloc ?_ _ | with_reducible refine Below.alloc ?_ (by first | omega | (simp; done) | (simp; omega)) _ | with_reducible refine Below.setCell ?_ (by first | omega | (simp; done) | (simp; omega)) _ | with_reducible assumption))) hb4
  clear hb4 hD3 hO3 hA3 hB3 hc3 k0 k1 k2 k3
  have z4 := hC4.lt
  have z4a : w.heap.size < w4.heap.size := by omega
  have z4b : w1.heap.size < w4.heap.size := by omega
  have z4c : w2.heap.size < w4.heap.size := by omega
  have z4d := hO4.lt
  obtain ⟨k0, k1, k2, k3⟩ := bk4 hD4
  obtain ⟨i0, i1, _, _⟩ := bk2 hA4
  obtain ⟨i2, i3, _, _⟩ := bk2 hB4
  obtain ⟨i4, i5, _, _⟩ := bk2 hC4
  go_wp2_with (first | (go_at_call 13; refine (valid_any _ _).mono ?_; rintro e w0 ⟨rfl, rfl⟩) | (go_at_call 14; refine (rvalid_any _ _).mono ?_; rintro e w0 ⟨rfl, rfl⟩))
  clear i0 i1 i2 i3 i4 i5
  obtain ⟨xa, hxa⟩ : ∃ xa, xa = x % 2147483579 := ⟨_, rfl⟩
  obtain ⟨na, hna⟩ : ∃ na, na = n % 1099511627776 := ⟨_, rfl⟩
  obtain ⟨xb, hxb⟩ : ∃ xb, xb = x % 9 := ⟨_, rfl⟩
  obtain ⟨nb, hnb⟩ : ∃ nb, nb = n % 9 := ⟨_, rfl⟩
  have Hxa := Lib.hid (show RetsQ 8 #[.int .i64 x, .int .i64 2147483579] (.int .i64 xa) from fun w => by rw [hxa]; exact mod_any _ _ (by omega) (by omega) Hx.out w)
  have Hna := Lib.hid (show RetsQ 8 #[.int .i64 n, .int .i64 1099511627776] (.int .i64 na) from fun w => by rw [hna]; exact mod_any _ _ (by omega) (by omega) Hn.out w)
  have Hxb := Lib.hid (show RetsQ 8 #[.int .i64 x, .int .i64 9] (.int .i64 xb) from fun w => by rw [hxb]; exact mod_any _ _ (by omega) (by omega) Hx.out w)
  have Hnb := Lib.hid (show RetsQ 8 #[.int .i64 n, .int .i64 9] (.int .i64 nb) from fun w => by rw [hnb]; exact mod_any _ _ (by omega) (by omega) Hn.out w)
  have HX : Hid (∀ k, I64 (tri k x xa xb)) := fun k => tri_I k x xa xb Hx.out (by unfold I64; omega) (by unfold I64; omega)
  have HN : Hid (∀ k, I64 (tri k n na nb)) := fun k => tri_I k n na nb Hn.out (by unfold I64; omega) (by unfold I64; omega)
  clear hxa hna hxb hnb
  refine (Hxa.out _).mono ?_
  rintro e w0 ⟨rfl, rfl⟩
  go_wp2_with fail
  refine (Hna.out _).mono ?_
  rintro e w0 ⟨rfl, rfl⟩
  go_wp2_with fail
  refine (Hxb.out _).mono ?_
  rintro e w0 ⟨rfl, rfl⟩
  go_wp2_with fail
  refine (Hnb.out _).mono ?_
  rintro e w0 ⟨rfl, rfl⟩
  go_wp2_with fail
  clear k0 k1 k2 k3
  go_loopw [114] (fun i wr => ∃ k : Nat, k ≤ 3 ∧ i = .int .i64 k ∧ Bk wr w.heap.size 24 (c4 d) ∧ Bk wr (w.heap.size + 1) 26 #[.int .i64 R0, .int .i64 S0] ∧ Bk wr w4.heap.size 26 #[.int .i64 R2, .int .i64 S2] ∧ Below w.heap.size w wr) (fun i _ => 3 - (intOf i).toNat)
  case atStart => exact ⟨0, by omega, rfl, by (repeat (first | with_reducible assumption | ((with_reducible refine Mw.Bk.new' ?_); (first | rfl | (simp; done) | (simp; omega))) | with_reducible refine Mw.Bk.alloc ?_ _ | with_reducible refine Mw.Bk.drew ?_ | with_reducible refine Mw.Bk.drewN ?_ _ | with_reducible refine Mw.Bk.set4 (a0 := .int .u32 0) (a1 := .int .u32 0) (a2 := .int .u32 0) (a3 := .int .u32 0) ?_ | ((with_reducible refine Mw.Bk.far ?_ ?_ _); rotate_left 1; focus (first | omega | (simp; done) | (simp; omega))) | with_reducible refine Mw.Bk.old ?_ (by assumption))), by (repeat (first | with_reducible assumption | ((with_reducible refine Mw.Bk.new' ?_); (first | rfl | (simp; done) | (simp; omega))) | with_reducible refine Mw.Bk.alloc ?_ _ | with_reducible refine Mw.Bk.drew ?_ | with_reducible refine Mw.Bk.drewN ?_ _ | with_reducible refine Mw.Bk.set4 (a0 := .int .u32 0) (a1 := .int .u32 0) (a2 := .int .u32 0) (a3 := .int .u32 0) ?_ | ((with_reducible refine Mw.Bk.far ?_ ?_ _); rotate_left 1; focus (first | omega | (simp; done) | (simp; omega))) | with_reducible refine Mw.Bk.old ?_ (by assumption))), by (repeat (first | with_reducible assumption | ((with_reducible refine Mw.Bk.new' ?_); (first | rfl | (simp; done) | (simp; omega))) | with_reducible refine Mw.Bk.alloc ?_ _ | with_reducible refine Mw.Bk.drew ?_ | with_reducible refine Mw.Bk.drewN ?_ _ | with_reducible refine Mw.Bk.set4 (a0 := .int .u32 0) (a1 := .int .u32 0) (a2 := .int .u32 0) (a3 := .int .u32 0) ?_ | ((with_reducible refine Mw.Bk.far ?_ ?_ _); rotate_left 1; focus (first | omega | (simp; done) | (simp; omega))) | with_reducible refine Mw.Bk.old ?_ (by assumption))), by (repeat (first | with_reducible exact Below.refl _ _ | with_reducible refine bl_drewN ?_ _ | with_reducible refine Below.drew ?_ | with_reducible refine bl_alloc ?_ _ | with_reducible refine Below.alloc ?_ (by first | omega | (simp; done) | (simp; omega)) _ | with_reducible refine Below.setCell ?_ (by first | omega | (simp; done) | (simp; omega)) _ | with_reducible assumption))⟩
  case round =>
    clear hD4 hO4 hA4 hB4 hC4 hc4
    obtain ⟨k, hk, rfl, hD, hO, hC, hb⟩ := hrel
    have l0 := hD.lt
    have l1 := hO.lt
    have l2 := hC.lt
    obtain ⟨k0, k1, k2, k3⟩ := bk4 hD
    obtain ⟨i0, i1, _, _⟩ := bk2 hO
    obtain ⟨i2, i3, _, _⟩ := bk2 hC
    by_cases hlt : k < 3
    · have hix := pair_at x n xa na xb nb k hlt
      have hbk : decide ((k : Int) < 3) = true := decide_eq_true (by omega)
      go_wp2_with fail
      refine Mm.region_ext (by kernel_rfl) (by kernel_rfl) ?_; (repeat (quiet_step ((first | (go_at_call 15; exact Mm.calls_same (power_any _ _ (HX.out _) (HN.out _) _)) | (go_at_call 16; exact Mm.calls_same (rpower_any _ _ (HX.out _) (HN.out _) _)) | (go_at_call 17; exact Mm.calls_ext (chal_any _ _ d Hd.out _)) | (go_at_call 18; exact Mm.calls_ext (rchal_any _ _ d Hd.out _)))))); refine wpQuiet_nil ?_
      intro w5 hb5
      have hD5 : Bk w5 w.heap.size 24 (c4 d) := Mw.Bk.old (by (repeat (first | with_reducible assumption | ((with_reducible refine Mw.Bk.new' ?_); (first | rfl | (simp; done) | (simp; omega))) | with_reducible refine Mw.Bk.alloc ?_ _ | with_reducible refine Mw.Bk.drew ?_ | with_reducible refine Mw.Bk.drewN ?_ _ | with_reducible refine Mw.Bk.set4 (a0 := .int .u32 0) (a1 := .int .u32 0) (a2 := .int .u32 0) (a3 := .int .u32 0) ?_ | ((with_reducible refine Mw.Bk.far ?_ ?_ _); rotate_left 1; focus (first | omega | (simp; done) | (simp; omega))) | with_reducible refine Mw.Bk.old ?_ (by assumption)))) hb5
      have hO5 : Bk w5 (w.heap.size + 1) 26 #[.int .i64 R0, .int .i64 S0] := Mw.Bk.old (by (repeat (first | with_reducible assumption | ((with_reducible refine Mw.Bk.new' ?_); (first | rfl | (simp; done) | (simp; omega))) | with_reducible refine Mw.Bk.alloc ?_ _ | with_reducible refine Mw.Bk.drew ?_ | with_reducible refine Mw.Bk.drewN ?_ _ | with_reducible refine Mw.Bk.set4 (a0 := .int .u32 0) (a1 := .int .u32 0) (a2 := .int .u32 0) (a3 := .int .u32 0) ?_ | ((with_reducible refine Mw.Bk.far ?_ ?_ _); rotate_left 1; focus (first | omega | (simp; done) | (simp; omega))) | with_reducible refine Mw.Bk.old ?_ (by assumption)))) hb5
      have hC5 : Bk w5 w4.heap.size 26 #[.int .i64 R2, .int .i64 S2] := Mw.Bk.old (by (repeat (first | with_reducible assumption | ((with_reducible refine Mw.Bk.new' ?_); (first | rfl | (simp; done) | (simp; omega))) | with_reducible refine Mw.Bk.alloc ?_ _ | with_reducible refine Mw.Bk.drew ?_ | with_reducible refine Mw.Bk.drewN ?_ _ | with_reducible refine Mw.Bk.set4 (a0 := .int .u32 0) (a1 := .int .u32 0) (a2 := .int .u32 0) (a3 := .int .u32 0) ?_ | ((with_reducible refine Mw.Bk.far ?_ ?_ _); rotate_left 1; focus (first | omega | (simp; done) | (simp; omega))) | with_reducible refine Mw.Bk.old ?_ (by assumption)))) hb5
      have hc5 : Below w.heap.size w w5 := bl_trans (by (repeat (first | with_reducible exact Below.refl _ _ | with_reducible refine bl_drewN ?_ _ | with_reducible refine Below.drew ?_ | with_reducible refine bl_alloc ?_ _ | with_reducible refine Below.alloc ?_ (by first | omega | (simp; done) | (simp; omega)) _ | with_reducible refine Below.setCell ?_ (by first | omega | (simp; done) | (simp; omega)) _ | with_reducible assumption))) hb5
      clear hb5 hD hO hC hb k0 k1 k2 k3 i0 i1 i2 i3 hix
      go_wp2_with fail
      go_roundw
      case rel => exact ⟨k + 1, by omega, by go_num, hD5, hO5, hC5, hc5⟩
      case measure => simp [intOf]; omega
    · obtain rfl : k = 3 := by omega
      have Hpw : Hid (I64 (pw 4 (1 + u))) := I64_pw _ _
      go_wp2_with (go_at_call 10; refine (rpublic_yes _ Hval.out _).mono ?_; rintro e w0 ⟨rfl, rfl⟩)
      refine Mm.region_ext (by kernel_rfl) (by kernel_rfl) ?_; (repeat (quiet_step ((first | (go_at_call 19; exact Mm.calls_ext (verify_any _ _ _ d (by first | exact Hpw.out | exact Hx.out) (by first | exact HR0.out | exact HR2.out) (by first | exact HS0.out | exact HS2.out) Hd.out _)) | (go_at_call 20; exact Mm.calls_ext (rverify_any _ _ _ d (by first | exact Hpw.out | exact Hx.out) (by first | exact HR0.out | exact HR2.out) (by first | exact HS0.out | exact HS2.out) Hd.out _)) | (go_at_call 21; exact Mm.calls_ext (sane_any _)))))); refine wpQuiet_nil ?_
      intro w5 hb5
      go_wp2_with fail
      go_ret
      exact ⟨rfl, bl_trans hb hb5⟩
end Go.Proofs.Ytjejganeladheaa.Sg
