/- Walks: the statements SignatureLeaks and SignatureOther. -/
import Derived.Test.YtjejganeladheaaSE
import Derived.WalkKit
import Derived.WalkSpells
import Derived.WalkLawsBesides
import Derived.Deep.QuietTactic
import Derived.BigQuiet
import Derived.Deep.Draws
import Derived.Deep.AppendLies
import Derived.Laws.OwnMore
import Derived.Laws.BytesArg
import Derived.Lib.Hide
import Derived.Deep.LoopGhost
namespace Go.Proofs.Ytjejganeladheaa.Sg
open Go.RowKit Go.Proofs.Ytjejganeladheaa.Dg Go.Proofs.Ytjejganeladheaa.Nt
open Go.Proofs.Ytjejganeladheaa.Mw (I64 ret_int ret_bool Bk bl_trans own_ints)
set_option linter.unusedVariables false

abbrev Rets (f : FuncId) (args : Array Value) (v : Value) : Prop := ∀ w : World, Calls Try.prog f args w fun e w' => e = .returned v ∧ Below w.heap.size w w'
abbrev RetsQ (f : FuncId) (args : Array Value) (v : Value) : Prop := ∀ w : World, Calls Try.prog f args w fun e w' => e = .returned v ∧ w = w'

theorem cQ' (x : Nat) : ((x % 1073741789 : Nat) : Int) = (x : Int) % 1073741789 := cQ x

set_option maxHeartbeats 2000000 in
set_option maxRecDepth 100000 in
theorem leaks_any (secret nonce : Int) (d o : St) (hs : I64 secret) (hn : I64 nonce) (hd : Wd d) (ho : Wd o) (w : World) :
    Calls Try.prog 6 #[.int .i64 secret, .int .i64 nonce, dv d, dv o] w fun e w' => e = .returned (.bool true) ∧ Below w.heap.size w w' := by
  obtain ⟨u, hu⟩ : ∃ u, u = ky secret := ⟨_, rfl⟩
  obtain ⟨v, hv⟩ : ∃ v, v = ky nonce := ⟨_, rfl⟩
  have hub := ky_bd secret
  have hvb := ky_bd nonce
  rw [← hu] at hub
  rw [← hv] at hvb
  have Hu := Lib.hid (show RetsQ 8 #[.int .i64 secret, .int .i64 1073741788] (.int .i64 u) from fun w => by rw [hu]; exact mod_ky secret hs w)
  have Hv := Lib.hid (show RetsQ 8 #[.int .i64 nonce, .int .i64 1073741788] (.int .i64 v) from fun w => by rw [hv]; exact mod_ky nonce hn w)
  clear hu hv hs hn
  obtain ⟨u0, u1⟩ := hub
  obtain ⟨v0, v1⟩ := hvb
  have Hval := Lib.hid (show val (1 + u) = true from decide_eq_true (by omega))
  obtain ⟨c, hc⟩ : ∃ c, c = chal (pw 4 (1 + v)) (pw 4 (1 + u)) d := ⟨_, rfl⟩
  obtain ⟨f, hf⟩ : ∃ f, f = chal (pw 4 (1 + v)) (pw 4 (1 + u)) o := ⟨_, rfl⟩
  have hcb := chal_bd (pw 4 (1 + v)) (pw 4 (1 + u)) d
  have hfb := chal_bd (pw 4 (1 + v)) (pw 4 (1 + u)) o
  rw [← hc] at hcb
  rw [← hf] at hfb
  obtain ⟨c0, c1⟩ := hcb
  obtain ⟨f0, f1⟩ := hfb
  have Hd := Lib.hid hd
  have Ho := Lib.hid ho
  have Hc := Lib.hid hc.symm
  have Hf := Lib.hid hf.symm
  have h1 := holds (1 + u) (1 + v) c (by omega) (by omega) (by omega)
  have h2 := holds (1 + u) (1 + v) f (by omega) (by omega) (by omega)
  have V1 := Lib.hid (show Rets 19 #[.int .i64 (pw 4 (1 + u)), dv d, sgv (pw 4 (1 + v)) ((1 + v + c * (1 + u)) % 1073741789)] (.bool true) from fun w => by
    have := verify_any (pw 4 (1 + u)) (pw 4 (1 + v)) ((1 + v + c * (1 + u)) % 1073741789) d (I64_pw _ _) (I64_pw _ _) (by unfold I64; omega) hd w
    rwa [← hc, h1] at this)
  have V2 := Lib.hid (show Rets 19 #[.int .i64 (pw 4 (1 + u)), dv o, sgv (pw 4 (1 + v)) ((1 + v + f * (1 + u)) % 1073741789)] (.bool true) from fun w => by
    have := verify_any (pw 4 (1 + u)) (pw 4 (1 + v)) ((1 + v + f * (1 + u)) % 1073741789) o (I64_pw _ _) (I64_pw _ _) (by unfold I64; omega) ho w
    rwa [← hf, h2] at this)
  clear h1 h2 hc hf hd ho
  obtain ⟨p0, p1⟩ := mod_bd c (1 + u) (by omega) (by omega) (by omega) (by omega)
  obtain ⟨p2, p3⟩ := mod_bd f (1 + u) (by omega) (by omega) (by omega) (by omega)
  have p4 : c * (1 + u) < 2305843009213693952 := by have := Int.mul_le_mul (show c ≤ 1073741789 by omega) (show 1 + u ≤ 1073741789 by omega) (by omega) (by omega); omega
  have p5 : f * (1 + u) < 2305843009213693952 := by have := Int.mul_le_mul (show f ≤ 1073741789 by omega) (show 1 + u ≤ 1073741789 by omega) (by omega) (by omega); omega
  go_enter Try.func6, Try.ntmps6
  go_wp2_with fail
  refine (Hu.out _).mono ?_
  rintro e w0 ⟨rfl, rfl⟩
  go_wp2_with fail
  refine (Hv.out _).mono ?_
  rintro e w0 ⟨rfl, rfl⟩
  go_wp2_with fail
  refine (public_yes _ Hval.out _).mono ?_
  rintro e w0 ⟨rfl, rfl⟩
  go_wp2_with fail
  refine (power_any 4 (1 + v) (by unfold I64; omega) (by unfold I64; omega) _).mono ?_
  rintro e w0 ⟨rfl, rfl⟩
  go_wp2_with fail
  refine Mm.region_ext (by kernel_rfl) (by kernel_rfl) ?_; (repeat (quiet_step ((go_at_call 17; exact Mm.calls_ext (chal_any _ _ _ (by first | exact Hd.out | exact Ho.out) _))))); refine wpQuiet_nil ?_
  rw [Hc.out, Hf.out]
  intro w1 hb1
  have hD1 : Bk w1 w.heap.size 24 (c4 d) := Mw.Bk.old (by (repeat (first | ((with_reducible refine Mw.Bk.new' ?_); (first | rfl | (simp; done) | (simp; omega))) | with_reducible refine Mw.Bk.alloc ?_ _ | with_reducible refine Mw.Bk.drewN ?_ _ | with_reducible refine Mw.Bk.drew ?_ | with_reducible assumption))) hb1
  have hO1 : Bk w1 (w.heap.size + 1) 24 (c4 o) := Mw.Bk.old (by (repeat (first | ((with_reducible refine Mw.Bk.new' ?_); (first | rfl | (simp; done) | (simp; omega))) | with_reducible refine Mw.Bk.alloc ?_ _ | with_reducible refine Mw.Bk.drewN ?_ _ | with_reducible refine Mw.Bk.drew ?_ | with_reducible assumption))) hb1
  have hc1 : Below w.heap.size w w1 := bl_trans (by (repeat (first | with_reducible exact Below.refl _ _ | with_reducible refine bl_drewN ?_ _ | with_reducible refine Below.drew ?_ | with_reducible refine bl_alloc ?_ _ | with_reducible refine Below.alloc ?_ (by first | omega | (simp; done) | (simp; omega)) _ | with_reducible refine Below.setCell ?_ (by first | omega | (simp; done) | (simp; omega)) _ | with_reducible assumption))) hb1
  clear hb1
  obtain ⟨k0, k1, k2, k3⟩ := bk4 hD1
  go_wp2_with fail
  refine (V1.out _).mono ?_
  rintro e w2 ⟨rfl, hb2⟩
  have hO2 := hO1.old hb2
  have hc2 : Below w.heap.size w w2 := bl_trans hc1 hb2
  clear hb2 k0 k1 k2 k3 hD1 hO1 hc1
  obtain ⟨k0, k1, k2, k3⟩ := bk4 hO2
  go_wp2_with fail
  refine (V2.out _).mono ?_
  rintro e w3 ⟨rfl, hb3⟩
  have hc3 : Below w.heap.size w w3 := bl_trans hc2 hb3
  clear hb3 k0 k1 k2 k3 hO2 hc2
  by_cases hcf : c = f
  · have hq : (c == f) = true := by simpa using hcf
    clear hcf
    go_wp2_with fail
    refine (sane_any _).mono ?_
    rintro e w5 ⟨rfl, hb5⟩
    go_wp2_with fail
    go_ret
    exact ⟨rfl, bl_trans hc3 hb5⟩
  · have hq : (c == f) = false := by simpa using hcf
    have hle := leaks (1 + u) (1 + v) c f (by omega) (by omega) c0 c1 f0 f1 hcf
    clear hcf
    obtain ⟨num, hnum⟩ : ∃ num, num = ((1 + v + c * (1 + u)) % 1073741789 - (1 + v + f * (1 + u)) % 1073741789) % 1073741789 := ⟨_, rfl⟩
    obtain ⟨den, hden⟩ : ∃ den : Nat, (den : Int) = (c - f) % 1073741789 := ⟨((c - f) % 1073741789).toNat, by omega⟩
    rw [← hnum, ← hden] at hle
    have HL := Lib.hid hle
    have Hnum := Lib.hid (show RetsQ 8 #[.int .i64 ((1 + v + c * (1 + u)) % 1073741789 - (1 + v + f * (1 + u)) % 1073741789), .int .i64 1073741789] (.int .i64 num) from fun w => by rw [hnum]; exact mod_any _ _ (by omega) (by omega) (by unfold I64; omega) w)
    have Hden := Lib.hid (show RetsQ 8 #[.int .i64 (c - f), .int .i64 1073741789] (.int .i64 den) from fun w => by rw [hden]; exact mod_any _ _ (by omega) (by omega) (by unfold I64; omega) w)
    have n0 : 0 ≤ num := by omega
    have n1 : num < 1073741789 := by omega
    have d1 : den < 1073741789 := by omega
    clear hnum hden hle
    go_wp2_with fail
    refine (Hnum.out _).mono ?_
    rintro e w0 ⟨rfl, rfl⟩
    go_wp2_with fail
    refine (Hden.out _).mono ?_
    rintro e w0 ⟨rfl, rfl⟩
    clear p0 p1 p2 p3 p4 p5
    go_wp2_with fail
    go_loop [20, 21, 22] (fun r x n => ∃ a' m' r' : Nat, a' < 1073741789 ∧ r' < 1073741789 ∧ m' ≤ 1073741787 ∧ r' * pwN 1073741789 a' m' % 1073741789 = pwN 1073741789 den 1073741787 ∧ x = .int .i64 a' ∧ n = .int .i64 m' ∧ r = .int .i64 r') (fun _ _ n => (intOf n).toNat)
    case atStart => exact ⟨den, 1073741787, 1, by omega, by omega, by omega, by rw [Nat.one_mul, pw_mm], rfl, rfl, rfl⟩
    case round =>
      obtain ⟨a', m', r', ha', hr', hm', hq', rfl, rfl, rfl⟩ := hrel
      have Hq := Lib.hid hq'
      clear hq'
      by_cases hp : 0 < m'
      · obtain ⟨p0, p1⟩ := mod_bd (r' : Int) (a' : Int) (by omega) (by omega) (by omega) (by omega)
        obtain ⟨q0, q1⟩ := mod_bd (a' : Int) (a' : Int) (by omega) (by omega) (by omega) (by omega)
        by_cases hodd : m' % 2 = 1
        · have hb : ((m' : Int) % 2 == 1) = true := by simp; omega
          have Hs := Lib.hid (step1 1073741789 r' a' m' hodd)
          clear hodd
          go_wp2_with fail
          go_round
          case rel => exact ⟨a' * a' % 1073741789, m' / 2, r' * a' % 1073741789, Nat.mod_lt _ (by decide), Nat.mod_lt _ (by decide), by omega, by rw [Hs.out, Hq.out], by rw [cQ, Int.natCast_mul], by go_num, by rw [cQ, Int.natCast_mul]⟩
          case measure => simp [intOf]; omega
        · have hb : ((m' : Int) % 2 == 1) = false := by simp; omega
          have Hs := Lib.hid (step0 1073741789 r' a' m' hodd)
          clear hodd
          go_wp2_with fail
          go_round
          case rel => exact ⟨a' * a' % 1073741789, m' / 2, r', Nat.mod_lt _ (by decide), by omega, by omega, by rw [Hs.out, Hq.out], by rw [cQ, Int.natCast_mul], by go_num, rfl⟩
          case measure => simp [intOf]; omega
      · obtain rfl : m' = 0 := by omega
        have hri : (r' : Int) = inv (den : Int) := by
          unfold inv
          rw [Int.toNat_natCast, ← Hq.out, pw_zero _ _ (by decide), Nat.mul_one, Nat.mod_eq_of_lt hr']
        have ht : (num * (r' : Int) % 1073741789 == 1 + u) = true := by rw [hri, HL.out]; simp
        obtain ⟨p0, p1⟩ := mod_bd num (r' : Int) (by omega) (by omega) (by omega) (by omega)
        clear hri
        go_wp2_with fail
        refine (sane_any _).mono ?_
        rintro e w5 ⟨rfl, hb5⟩
        go_wp2_with fail
        go_ret
        exact ⟨rfl, bl_trans hc3 hb5⟩

set_option maxHeartbeats 2000000 in
set_option maxRecDepth 100000 in
theorem other_any (secret nonce : Int) (d o : St) (hs : I64 secret) (hn : I64 nonce) (hd : Wd d) (ho : Wd o) (w : World) :
    Calls Try.prog 7 #[.int .i64 secret, .int .i64 nonce, dv d, dv o] w fun e w' => e = .returned (.bool true) ∧ Below w.heap.size w w' := by
  obtain ⟨u, hu⟩ : ∃ u, u = ky secret := ⟨_, rfl⟩
  obtain ⟨v, hv⟩ : ∃ v, v = ky nonce := ⟨_, rfl⟩
  have hub := ky_bd secret
  have hvb := ky_bd nonce
  rw [← hu] at hub
  rw [← hv] at hvb
  have Hu := Lib.hid (show RetsQ 8 #[.int .i64 secret, .int .i64 1073741788] (.int .i64 u) from fun w => by rw [hu]; exact mod_ky secret hs w)
  have Hv := Lib.hid (show RetsQ 8 #[.int .i64 nonce, .int .i64 1073741788] (.int .i64 v) from fun w => by rw [hv]; exact mod_ky nonce hn w)
  clear hu hv hs hn
  obtain ⟨u0, u1⟩ := hub
  obtain ⟨v0, v1⟩ := hvb
  have hval : val (1 + u) = true := decide_eq_true (by omega)
  have Hval := Lib.hid hval
  have Hval2 := Lib.hid (show val (1 + v) = true from decide_eq_true (by omega))
  obtain ⟨R, hR⟩ : ∃ R, R = sR (1 + u) d := ⟨_, rfl⟩
  obtain ⟨S, hS⟩ : ∃ S, S = sS (1 + u) d := ⟨_, rfl⟩
  have HS := Lib.hid (show Rets 11 #[.int .i64 (1 + u), dv d] (.tuple #[sgv R S, .int .i64 0]) from fun w => by rw [hR, hS]; exact sign_yes _ d hval hd w)
  obtain ⟨c, hc⟩ : ∃ c, c = chal R (pw 4 (1 + u)) d := ⟨_, rfl⟩
  obtain ⟨f, hf⟩ : ∃ f, f = chal R (pw 4 (1 + u)) o := ⟨_, rfl⟩
  obtain ⟨g, hg⟩ : ∃ g, g = chal R (pw 4 (1 + v)) d := ⟨_, rfl⟩
  have hcb := chal_bd R (pw 4 (1 + u)) d
  have hfb := chal_bd R (pw 4 (1 + u)) o
  have hgb := chal_bd R (pw 4 (1 + v)) d
  rw [← hc] at hcb
  rw [← hf] at hfb
  rw [← hg] at hgb
  obtain ⟨c0, c1⟩ := hcb
  obtain ⟨f0, f1⟩ := hfb
  obtain ⟨g0, g1⟩ := hgb
  have Hd := Lib.hid hd
  have Ho := Lib.hid ho
  have Hc := Lib.hid hc.symm
  have Hf := Lib.hid hf.symm
  have Hg := Lib.hid hg.symm
  have hnb := non_bd (1 + u) d
  have hS' : S = (non (1 + u) d + c * (1 + u)) % 1073741789 := by rw [hS, hc, hR]; rfl
  have hR' : R = pw 4 (non (1 + u) d) := hR
  have h1 : ver (pw 4 (1 + u)) R S f = (c == f) := by rw [hS', hR']; exact other_d (1 + u) (non (1 + u) d) c f (by omega) (by omega) (by omega) c0 c1 f0 f1
  have h2 : ver (pw 4 (1 + v)) R S g = ((c * (1 + u) - g * (1 + v)).tmod 1073741789 == 0) := by rw [hS', hR']; exact other_q (1 + u) (1 + v) (non (1 + u) d) c g (by omega) (by omega) (by omega) c0 g0
  have iR : I64 R := by rw [hR]; exact I64_sR _ _
  have iS : I64 S := by rw [hS]; exact I64_sS _ _
  have V1 := Lib.hid (show Rets 19 #[.int .i64 (pw 4 (1 + u)), dv o, sgv R S] (.bool (c == f)) from fun w => by
    have := verify_any (pw 4 (1 + u)) R S o (I64_pw _ _) iR iS ho w
    rwa [← hf, h1] at this)
  have V2 := Lib.hid (show Rets 19 #[.int .i64 (pw 4 (1 + v)), dv d, sgv R S] (.bool ((c * (1 + u) - g * (1 + v)).tmod 1073741789 == 0)) from fun w => by
    have := verify_any (pw 4 (1 + v)) R S d (I64_pw _ _) iR iS hd w
    rwa [← hg, h2] at this)
  clear h1 h2 hc hf hg hd ho hS' hR' iR iS hnb hR hS hval
  obtain ⟨p0, p1⟩ := mod_bd c (1 + u) (by omega) (by omega) (by omega) (by omega)
  obtain ⟨p2, p3⟩ := mod_bd g (1 + v) (by omega) (by omega) (by omega) (by omega)
  have w1 : IntKind.i64.wrap (c * (1 + u)) = c * (1 + u) := IntWalk.i64_in _ (by omega)
  have w2 : IntKind.i64.wrap (g * (1 + v)) = g * (1 + v) := IntWalk.i64_in _ (by omega)
  have w3 : IntKind.i64.wrap (c * (1 + u) - g * (1 + v)) = c * (1 + u) - g * (1 + v) := IntWalk.i64_in _ (by omega)
  go_enter Try.func7, Try.ntmps7
  go_wp2_with fail
  refine (Hu.out _).mono ?_
  rintro e w0 ⟨rfl, rfl⟩
  go_wp2_with fail
  refine (Hv.out _).mono ?_
  rintro e w0 ⟨rfl, rfl⟩
  go_wp2_with fail
  refine (public_yes _ Hval.out _).mono ?_
  rintro e w0 ⟨rfl, rfl⟩
  go_wp2_with fail
  refine (public_yes _ Hval2.out _).mono ?_
  rintro e w0 ⟨rfl, rfl⟩
  go_wp2_with fail
  refine (HS.out _).mono ?_
  rintro e w1 ⟨rfl, hb1⟩
  have hD1 : Bk w1 w.heap.size 24 (c4 d) := Mw.Bk.old (by (repeat (first | ((with_reducible refine Mw.Bk.new' ?_); (first | rfl | (simp; done) | (simp; omega))) | with_reducible refine Mw.Bk.alloc ?_ _ | with_reducible refine Mw.Bk.drewN ?_ _ | with_reducible refine Mw.Bk.drew ?_ | with_reducible assumption))) hb1
  have hO1 : Bk w1 (w.heap.size + 1) 24 (c4 o) := Mw.Bk.old (by (repeat (first | ((with_reducible refine Mw.Bk.new' ?_); (first | rfl | (simp; done) | (simp; omega))) | with_reducible refine Mw.Bk.alloc ?_ _ | with_reducible refine Mw.Bk.drewN ?_ _ | with_reducible refine Mw.Bk.drew ?_ | with_reducible assumption))) hb1
  have hc1 : Below w.heap.size w w1 := bl_trans (by (repeat (first | with_reducible exact Below.refl _ _ | with_reducible refine bl_drewN ?_ _ | with_reducible refine Below.drew ?_ | with_reducible refine bl_alloc ?_ _ | with_reducible refine Below.alloc ?_ (by first | omega | (simp; done) | (simp; omega)) _ | with_reducible refine Below.setCell ?_ (by first | omega | (simp; done) | (simp; omega)) _ | with_reducible assumption))) hb1
  clear hb1
  have hz1 := hD1.lt
  have hz2 := hO1.lt
  obtain ⟨k0, k1, k2, k3⟩ := bk4 hD1
  obtain ⟨j0, j1, j2, j3⟩ := bk4 hO1
  go_wp2_with fail
  refine Mm.region_ext (by kernel_rfl) (by kernel_rfl) ?_; (repeat (quiet_step ((go_at_call 17; exact Mm.calls_ext (chal_any _ _ _ (by first | exact Hd.out | exact Ho.out) _))))); refine wpQuiet_nil ?_
  rw [Hc.out, Hf.out]
  intro wa hba
  have hDa : Bk wa w.heap.size 24 (c4 d) := Mw.Bk.old (by (repeat (first | with_reducible assumption | ((with_reducible refine Mw.Bk.new' ?_); (first | rfl | (simp; done) | (simp; omega))) | with_reducible refine Mw.Bk.alloc ?_ _ | with_reducible refine Mw.Bk.drew ?_ | with_reducible refine Mw.Bk.drewN ?_ _ | with_reducible refine Mw.Bk.set4 (a0 := .int .u32 0) (a1 := .int .u32 0) (a2 := .int .u32 0) (a3 := .int .u32 0) ?_ | ((with_reducible refine Mw.Bk.far ?_ ?_ _); rotate_left 1; focus (first | omega | (simp; done) | (simp; omega))) | with_reducible refine Mw.Bk.old ?_ (by assumption)))) hba
  have hOa : Bk wa (w.heap.size + 1) 24 (c4 o) := Mw.Bk.old (by (repeat (first | with_reducible assumption | ((with_reducible refine Mw.Bk.new' ?_); (first | rfl | (simp; done) | (simp; omega))) | with_reducible refine Mw.Bk.alloc ?_ _ | with_reducible refine Mw.Bk.drew ?_ | with_reducible refine Mw.Bk.drewN ?_ _ | with_reducible refine Mw.Bk.set4 (a0 := .int .u32 0) (a1 := .int .u32 0) (a2 := .int .u32 0) (a3 := .int .u32 0) ?_ | ((with_reducible refine Mw.Bk.far ?_ ?_ _); rotate_left 1; focus (first | omega | (simp; done) | (simp; omega))) | with_reducible refine Mw.Bk.old ?_ (by assumption)))) hba
  have hSa : Bk wa w1.heap.size 26 #[.int .i64 R, .int .i64 S] := Mw.Bk.old (by (repeat (first | with_reducible assumption | ((with_reducible refine Mw.Bk.new' ?_); (first | rfl | (simp; done) | (simp; omega))) | with_reducible refine Mw.Bk.alloc ?_ _ | with_reducible refine Mw.Bk.drew ?_ | with_reducible refine Mw.Bk.drewN ?_ _ | with_reducible refine Mw.Bk.set4 (a0 := .int .u32 0) (a1 := .int .u32 0) (a2 := .int .u32 0) (a3 := .int .u32 0) ?_ | ((with_reducible refine Mw.Bk.far ?_ ?_ _); rotate_left 1; focus (first | omega | (simp; done) | (simp; omega))) | with_reducible refine Mw.Bk.old ?_ (by assumption)))) hba
  have hca : Below w.heap.size w wa := bl_trans (by (repeat (first | with_reducible exact Below.refl _ _ | with_reducible refine bl_drewN ?_ _ | with_reducible refine Below.drew ?_ | with_reducible refine bl_alloc ?_ _ | with_reducible refine Below.alloc ?_ (by first | omega | (simp; done) | (simp; omega)) _ | with_reducible refine Below.setCell ?_ (by first | omega | (simp; done) | (simp; omega)) _ | with_reducible assumption))) hba
  clear hba hD1 hO1 hc1 k0 k1 k2 k3 j0 j1 j2 j3
  obtain ⟨k0, k1, k2, k3⟩ := bk4 hDa
  obtain ⟨j0, j1, j2, j3⟩ := bk4 hOa
  obtain ⟨i0, i1, _, _⟩ := bk2 hSa
  have l0 := hDa.lt
  have l1 := hOa.lt
  have l2 := hSa.lt
  go_wp2_with fail
  refine Mm.region_ext (by kernel_rfl) (by kernel_rfl) ?_; (repeat (quiet_step ((go_at_call 17; exact Mm.calls_ext (chal_any _ _ _ (by first | exact Hd.out | exact Ho.out) _))))); refine wpQuiet_nil ?_
  rw [Hc.out, Hg.out]
  intro wb hbb
  have hDb := hDa.old hbb
  have hOb := hOa.old hbb
  have hSb := hSa.old hbb
  have hcb : Below w.heap.size w wb := bl_trans hca hbb
  clear hbb hDa hOa hSa hca k0 k1 k2 k3 j0 j1 j2 j3 i0 i1 l0 l1 l2
  obtain ⟨k0, k1, k2, k3⟩ := bk4 hDb
  obtain ⟨j0, j1, j2, j3⟩ := bk4 hOb
  obtain ⟨i0, i1, _, _⟩ := bk2 hSb
  go_wp2_with fail
  refine (V1.out _).mono ?_
  rintro e wc ⟨rfl, hbc⟩
  have hDc := hDb.old hbc
  have hSc := hSb.old hbc
  have hcc : Below w.heap.size w wc := bl_trans hcb hbc
  clear hbc hDb hOb hSb hcb k0 k1 k2 k3 j0 j1 j2 j3 i0 i1
  obtain ⟨k0, k1, k2, k3⟩ := bk4 hDc
  obtain ⟨i0, i1, _, _⟩ := bk2 hSc
  go_wp2_with fail
  refine (V2.out _).mono ?_
  rintro e we ⟨rfl, hbe⟩
  have hce : Below w.heap.size w we := bl_trans hcc hbe
  clear hbe hDc hSc hcc
  go_wp2_with fail
  refine (sane_any _).mono ?_
  rintro e w5 ⟨rfl, hb5⟩
  go_wp2_with fail
  go_ret
  exact ⟨rfl, bl_trans hce hb5⟩
end Go.Proofs.Ytjejganeladheaa.Sg
