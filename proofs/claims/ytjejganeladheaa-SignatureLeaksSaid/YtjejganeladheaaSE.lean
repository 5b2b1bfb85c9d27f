/- Walks: the statements SignatureHolds and SignatureGroup. -/
import Derived.Test.YtjejganeladheaaSD
import Derived.WalkKit
import Derived.WalkSpells
import Derived.WalkLawsBesides
import Derived.Deep.QuietTactic
import Derived.BigQuiet
import Derived.Deep.Draws
import Derived.Deep.AppendLies
import Derived.Laws.OwnMore
import Derived.Laws.BytesArg
import Derived.Lib.Hide
import Derived.Deep.LoopGhost
import Derived.Deep.RegionHeld3
import Derived.RegionTactic
import Derived.Deep.RegionWith
namespace Go.Proofs.Ytjejganeladheaa.Sg
open Go.RowKit Go.Proofs.Ytjejganeladheaa.Dg
open Go.Proofs.Ytjejganeladheaa.Mw (I64 ret_int ret_bool Bk bl_trans own_ints)
set_option linter.unusedVariables false

/-- A key made of a number. -/
def ky (x : Int) : Int := x % 1073741788
theorem ky_bd (x : Int) : 0 ≤ ky x ∧ ky x < 1073741788 := by unfold ky; omega
theorem val_ky (x : Int) : val (1 + ky x) = true := decide_eq_true (by have := ky_bd x; omega)
theorem mod_ky (x : Int) (hx : I64 x) (w : World) : Calls Try.prog 8 #[.int .i64 x, .int .i64 1073741788] w fun e w' => e = .returned (.int .i64 (ky x)) ∧ w = w' := mod_any x 1073741788 (by omega) (by omega) hx w
theorem verify_S (s S : Int) (d : St) (hv : val s = true) (hd : Wd d) (hS : S ≠ sS s d) (hi : I64 S) (w : World) :
    Calls Try.prog 19 #[.int .i64 (pw 4 s), dv d, sgv (sR s d) S] w fun e w' => e = .returned (.bool false) ∧ Below w.heap.size w w' := by
  have := verify_any (pw 4 s) (sR s d) S d (I64_pw _ _) (I64_sR _ _) hi hd w
  have h1 := val_bd hv
  have h2 := non_bd s d
  have h3 := chal_bd (sR s d) (pw 4 s) d
  rwa [show ver (pw 4 s) (sR s d) S (chal (sR s d) (pw 4 s) d) = false from other_S s (non s d) (chal (sR s d) (pw 4 s) d) S (by omega) (by omega) (by omega) hS] at this

set_option maxHeartbeats 1000000 in
theorem holds_any (secret n : Int) (d : St) (hs : I64 secret) (hn : I64 n) (hd : Wd d) (w : World) :
    Calls Try.prog 4 #[.int .i64 secret, dv d, .int .i64 n] w fun e w' => e = .returned (.bool true) ∧ Below w.heap.size w w' := by
  have Hs := Lib.hid hs
  have Hn := Lib.hid hn
  have Hd := Lib.hid hd
  have Hv := Lib.hid (val_ky secret)
  have hk := ky_bd secret
  have hm := ky_bd n
  have hS := sS_bd (1 + ky secret) d
  clear hs hn hd
  go_enter Try.func4, Try.ntmps4
  go_wp2_with fail
  refine (mod_ky _ Hs.out _).mono ?_
  rintro e w0 ⟨rfl, rfl⟩
  go_wp2_with fail
  refine (public_yes _ Hv.out _).mono ?_
  rintro e w0 ⟨rfl, rfl⟩
  go_wp2_with fail
  refine (sign_yes _ d Hv.out Hd.out _).mono ?_
  rintro e w1 ⟨rfl, hb1⟩
  have hD1 : Bk w1 w.heap.size 24 (c4 d) := Mw.Bk.old (by (repeat (first | ((with_reducible refine Mw.Bk.new' ?_); (first | rfl | (simp; done) | (simp; omega))) | with_reducible refine Mw.Bk.alloc ?_ _ | with_reducible refine Mw.Bk.drewN ?_ _ | with_reducible refine Mw.Bk.drew ?_ | with_reducible assumption))) hb1
  have hc1 : Below w.heap.size w w1 := bl_trans (by (repeat (first | with_reducible exact Below.refl _ _ | with_reducible refine bl_drewN ?_ _ | with_reducible refine Below.drew ?_ | with_reducible refine bl_alloc ?_ _ | with_reducible refine Below.alloc ?_ (by first | omega | (simp; done) | (simp; omega)) _ | with_reducible refine Below.setCell ?_ (by first | omega | (simp; done) | (simp; omega)) _ | with_reducible assumption))) hb1
  have hz1 := hD1.lt
  clear hb1
  obtain ⟨k0, k1, k2, k3⟩ := bk4 hD1
  go_wp2_with fail
  refine (verify_yes _ d Hv.out Hd.out _).mono ?_
  rintro e w2 ⟨rfl, hb2⟩
  have hD2 : Bk w2 w.heap.size 24 (c4 d) := Mw.Bk.old (by (repeat (first | with_reducible assumption | ((with_reducible refine Mw.Bk.new' ?_); (first | rfl | (simp; done) | (simp; omega))) | with_reducible refine Mw.Bk.alloc ?_ _ | with_reducible refine Mw.Bk.drew ?_ | with_reducible refine Mw.Bk.drewN ?_ _ | with_reducible refine Mw.Bk.set4 (a0 := .int .u32 0) (a1 := .int .u32 0) (a2 := .int .u32 0) (a3 := .int .u32 0) ?_ | ((with_reducible refine Mw.Bk.far ?_ ?_ _); rotate_left 1; focus (first | omega | (simp; done) | (simp; omega))) | with_reducible refine Mw.Bk.old ?_ (by assumption)))) hb2
  have hS2 : Bk w2 w1.heap.size 26 #[.int .i64 (sR (1 + ky secret) d), .int .i64 (sS (1 + ky secret) d)] := Mw.Bk.old (by (repeat (first | with_reducible assumption | ((with_reducible refine Mw.Bk.new' ?_); (first | rfl | (simp; done) | (simp; omega))) | with_reducible refine Mw.Bk.alloc ?_ _ | with_reducible refine Mw.Bk.drew ?_ | with_reducible refine Mw.Bk.drewN ?_ _ | with_reducible refine Mw.Bk.set4 (a0 := .int .u32 0) (a1 := .int .u32 0) (a2 := .int .u32 0) (a3 := .int .u32 0) ?_ | ((with_reducible refine Mw.Bk.far ?_ ?_ _); rotate_left 1; focus (first | omega | (simp; done) | (simp; omega))) | with_reducible refine Mw.Bk.old ?_ (by assumption)))) hb2
  have hc2 : Below w.heap.size w w2 := bl_trans (by (repeat (first | with_reducible exact Below.refl _ _ | with_reducible refine bl_drewN ?_ _ | with_reducible refine Below.drew ?_ | with_reducible refine bl_alloc ?_ _ | with_reducible refine Below.alloc ?_ (by first | omega | (simp; done) | (simp; omega)) _ | with_reducible refine Below.setCell ?_ (by first | omega | (simp; done) | (simp; omega)) _ | with_reducible assumption))) hb2
  have hz2 := hS2.lt
  clear hb2 hD1 hc1 k0 k1 k2 k3
  obtain ⟨k0, k1, k2, k3⟩ := bk4 hD2
  obtain ⟨j0, j1, f0, f1⟩ := bk2 hS2
  go_wp2_with fail
  have hz3 : w.heap.size < w2.heap.size := by omega
  go_region_held3 (fun w' => w'.cell? ⟨w1.heap.size, 1, none⟩ = some (.int .i64 (sS (1 + ky secret) d))) ((repeat (first | with_reducible assumption | with_reducible refine Mw.cell_alloc ?_ _ | with_reducible refine Mw.cell_drew ?_ | with_reducible refine Mw.cell_far ?_ (by first | assumption | omega | (simp; omega)) _))) ((go_at_call 8; refine (mod_ky n Hn.out _).mono ?_; rintro e w0 ⟨rfl, rfl⟩))
  all_goals
    go_wp2_with fail
    refine (verify_S (1 + ky secret) ((sS (1 + ky secret) d + 1 + ky n) % 1073741789) d Hv.out Hd.out (by omega) (by unfold I64; omega) _).mono ?_
    rintro e w3 ⟨rfl, hb3⟩
    have hD3 : Bk w3 w.heap.size 24 (c4 d) := Mw.Bk.old (by (repeat (first | with_reducible assumption | ((with_reducible refine Mw.Bk.new' ?_); (first | rfl | (simp; done) | (simp; omega))) | with_reducible refine Mw.Bk.alloc ?_ _ | with_reducible refine Mw.Bk.drew ?_ | with_reducible refine Mw.Bk.drewN ?_ _ | with_reducible refine Mw.Bk.set4 (a0 := .int .u32 0) (a1 := .int .u32 0) (a2 := .int .u32 0) (a3 := .int .u32 0) ?_ | ((with_reducible refine Mw.Bk.far ?_ ?_ _); rotate_left 1; focus (first | omega | (simp; done) | (simp; omega))) | with_reducible refine Mw.Bk.old ?_ (by assumption)))) hb3
    have hL3 : Bk w3 (w2.heap.size + 1) 26 #[.int .i64 (sR (1 + ky secret) d), .int .i64 (sS (1 + ky secret) d + 1073741789)] := Mw.Bk.old (by (repeat (first | with_reducible assumption | ((with_reducible refine Mw.Bk.new' ?_); (first | rfl | (simp; done) | (simp; omega))) | with_reducible refine Mw.Bk.alloc ?_ _ | with_reducible refine Mw.Bk.drew ?_ | with_reducible refine Mw.Bk.drewN ?_ _ | with_reducible refine Mw.Bk.set4 (a0 := .int .u32 0) (a1 := .int .u32 0) (a2 := .int .u32 0) (a3 := .int .u32 0) ?_ | ((with_reducible refine Mw.Bk.far ?_ ?_ _); rotate_left 1; focus (first | omega | (simp; done) | (simp; omega))) | with_reducible refine Mw.Bk.old ?_ (by assumption)))) hb3
    have hc3 : Below w.heap.size w w3 := bl_trans (by (repeat (first | with_reducible exact Below.refl _ _ | with_reducible refine bl_drewN ?_ _ | with_reducible refine Below.drew ?_ | with_reducible refine bl_alloc ?_ _ | with_reducible refine Below.alloc ?_ (by first | omega | (simp; done) | (simp; omega)) _ | with_reducible refine Below.setCell ?_ (by first | omega | (simp; done) | (simp; omega)) _ | with_reducible assumption))) hb3
    clear hb3 hD2 hc2 k0 k1 k2 k3 j0 j1 f0 f1 hS2
    obtain ⟨k0, k1, k2, k3⟩ := bk4 hD3
    obtain ⟨j0, j1, f0, f1⟩ := bk2 hL3
    go_wp2_with fail
    refine (verify_S (1 + ky secret) (sS (1 + ky secret) d + 1073741789) d Hv.out Hd.out (by omega) (by unfold I64; omega) _).mono ?_
    rintro e w4 ⟨rfl, hb4⟩
    have hc4 : Below w.heap.size w w4 := bl_trans hc3 hb4
    clear hb4
    go_wp2_with fail
    refine (sane_any _).mono ?_
    rintro e w5 ⟨rfl, hb5⟩
    go_wp2_with fail
    go_ret
    exact ⟨rfl, bl_trans hc4 hb5⟩

set_option maxHeartbeats 1000000 in
theorem group_any (x n m : Int) (hx : I64 x) (hn : I64 n) (hm : I64 m) (w : World) :
    Calls Try.prog 5 #[.int .i64 x, .int .i64 n, .int .i64 m] w fun e w' => e = .returned (.bool true) ∧ Below w.heap.size w w' := by
  have Hx := Lib.hid hx
  have Hn := Lib.hid hn
  have Hm := Lib.hid hm
  clear hx hn hm
  obtain ⟨a, ha⟩ : ∃ a, a = x % 2147483579 := ⟨_, rfl⟩
  obtain ⟨b, hb⟩ : ∃ b, b = n % 268435456 := ⟨_, rfl⟩
  obtain ⟨c, hc⟩ : ∃ c, c = m % 268435456 := ⟨_, rfl⟩
  have a0 : 0 ≤ a := by omega
  have a1 : a < 2147483579 := by omega
  have b0 : 0 ≤ b := by omega
  have b1 : b < 268435456 := by omega
  have c0 : 0 ≤ c := by omega
  have c1 : c < 268435456 := by omega
  have Ha := Lib.hid (show ∀ w : World, Calls Try.prog 8 #[.int .i64 x, .int .i64 2147483579] w fun e w' => e = .returned (.int .i64 a) ∧ w = w' from fun w => by rw [ha]; exact mod_any x 2147483579 (by omega) (by omega) Hx.out w)
  have Hb := Lib.hid (show ∀ w : World, Calls Try.prog 8 #[.int .i64 n, .int .i64 268435456] w fun e w' => e = .returned (.int .i64 b) ∧ w = w' from fun w => by rw [hb]; exact mod_any n 268435456 (by omega) (by omega) Hn.out w)
  have Hc := Lib.hid (show ∀ w : World, Calls Try.prog 8 #[.int .i64 m, .int .i64 268435456] w fun e w' => e = .returned (.int .i64 c) ∧ w = w' from fun w => by rw [hc]; exact mod_any m 268435456 (by omega) (by omega) Hm.out w)
  clear ha hb hc
  have G1 := Lib.hid (group1 a b c a0 a1 b0 c0)
  have G2 := Lib.hid (group2 a b c a0 a1 b0 c0)
  have G3 := Lib.hid (group3 b b0)
  have hab := pw_bd a b
  have hac := pw_bd a c
  obtain ⟨m0, m1⟩ := mod_bd (pw a b) (pw a c) (by omega) (by omega) (by omega) (by omega)
  obtain ⟨m2, m3⟩ := mod_bd b c (by omega) (by omega) (by omega) (by omega)
  have T1 : Hid ((pw a (b + c) == pw a b * pw a c % 2147483579) = true) := by unfold Hid; rw [G1.out]; simp
  have T2 : Hid ((pw (pw a b) c == pw a (b * c)) = true) := by unfold Hid; rw [G2.out]; simp
  have T3 : Hid ((pw 4 (b + 1073741789) == pw 4 b) = true) := by unfold Hid; rw [G3.out]; simp
  go_enter Try.func5, Try.ntmps5
  go_wp2_with fail
  refine (Ha.out _).mono ?_
  rintro e w0 ⟨rfl, rfl⟩
  go_wp2_with fail
  refine (Hb.out _).mono ?_
  rintro e w0 ⟨rfl, rfl⟩
  go_wp2_with fail
  refine (Hc.out _).mono ?_
  rintro e w0 ⟨rfl, rfl⟩
  go_wp2_with fail
  refine (power_any a b (by unfold I64; omega) (by unfold I64; omega) _).mono ?_
  rintro e w0 ⟨rfl, rfl⟩
  go_wp2_with fail
  refine (power_any a c (by unfold I64; omega) (by unfold I64; omega) _).mono ?_
  rintro e w0 ⟨rfl, rfl⟩
  go_wp2_with fail
  refine (power_any a (b + c) (by unfold I64; omega) (by unfold I64; omega) _).mono ?_
  rintro e w0 ⟨rfl, rfl⟩
  have t1 := T1.out
  go_wp2_with fail
  clear t1
  refine (power_any (pw a b) c (by unfold I64; omega) (by unfold I64; omega) _).mono ?_
  rintro e w0 ⟨rfl, rfl⟩
  go_wp2_with fail
  refine (power_any a (b * c) (by unfold I64; omega) (by unfold I64; omega) _).mono ?_
  rintro e w0 ⟨rfl, rfl⟩
  have t2 := T2.out
  go_wp2_with fail
  clear t2
  refine (power_any 4 (b + 1073741789) (by unfold I64; omega) (by unfold I64; omega) _).mono ?_
  rintro e w0 ⟨rfl, rfl⟩
  go_wp2_with fail
  refine (power_any 4 b (by unfold I64; omega) (by unfold I64; omega) _).mono ?_
  rintro e w0 ⟨rfl, rfl⟩
  have t3 := T3.out
  by_cases hz : a = 0
  · have hz1 : (a == 0) = true := by simpa using hz
    clear hz
    go_wp2_with fail
    refine (sane_any _).mono ?_
    rintro e w5 ⟨rfl, hb5⟩
    go_wp2_with fail
    go_ret
    exact ⟨rfl, hb5⟩
  · have hz1 : (a == 0) = false := by simpa using hz
    have G4 := Lib.hid (group4 a (by omega) a1)
    go_wp2_with fail
    refine (power_any a 2147483578 (by unfold I64; omega) (by unfold I64; omega) _).mono ?_
    rintro e w0 ⟨rfl, rfl⟩
    rw [G4.out]
    go_wp2_with fail
    refine (sane_any _).mono ?_
    rintro e w5 ⟨rfl, hb5⟩
    go_wp2_with fail
    go_ret
    exact ⟨rfl, hb5⟩
end Go.Proofs.Ytjejganeladheaa.Sg
