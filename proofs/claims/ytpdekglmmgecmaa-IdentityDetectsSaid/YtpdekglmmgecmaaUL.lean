/- Walk: the statement IdentityDetects. -/
import Derived.Test.YtpdekglmmgecmaaUJ
import Derived.Test.YtpdekglmmgecmaaUE
import Derived.WalkKit
import Derived.WalkSpells
import Derived.WalkLawsBesides
import Derived.Deep.QuietTactic
import Derived.BigQuiet
import Derived.Deep.Draws
import Derived.Deep.AppendLies
import Derived.Laws.OwnMore
import Derived.Laws.BytesArg
import Derived.Lib.Hide
import Derived.Deep.LoopGhost
import Derived.RegionTactic
import Derived.Deep.CutBlock
namespace Go.Proofs.Ytpdekglmmgecmaa.Id
open Go.RowKit
open Go.Proofs.Ytpdekglmmgecmaa.Mw (Bk RdE ge ge_lt ge_mem)
set_option linter.unusedSimpArgs false
set_option linter.unusedVariables false
set_option linter.unusedSimpArgs false

theorem near_valid {b : Nat → Int} (h : vl b = true) (x : ByteArray) : ∀ k, k ≤ 9 → x ∉ near b k := fun k hk hx => by
  obtain ⟨i, hi, hx⟩ := (near_mem x k).1 hx
  obtain ⟨m, hm, hok, _⟩ := (rp_mem x _).1 hx
  exact vl_one (by omega) h (chn_fit (by omega) hm) (fun e => okc_ne hok e.symm) (okc_vl hok)
theorem nearS_valid {x : ByteArray} (h : pe x = 0) : nearS x = [] := by
  obtain ⟨hl, hv⟩ := vl_pe h
  have hsh : shpB x = true := (shp_iff x).2 ⟨hl, (pe_zero x h).2.1⟩
  rw [nearS_yes hsh]
  apply List.eq_nil_iff_forall_not_mem.2
  intro z hz
  exact near_valid hv z 9 (Nat.le_refl _) ((srt_perm _).mem_iff.1 hz)
/-- Whether a text is among the first k of a list; how many of them have a property. -/
def fnd (L : List ByteArray) (x : ByteArray) : Nat → Bool
  | 0 => false
  | k + 1 => fnd L x k || decide (ge L k = x)
def cq (L : List ByteArray) (q : ByteArray → Bool) : Nat → Nat
  | 0 => 0
  | k + 1 => cq L q k + if q (ge L k) = true then 1 else 0
theorem cq_le (L : List ByteArray) (q : ByteArray → Bool) : ∀ k, cq L q k ≤ k
  | 0 => Nat.le_refl _
  | k + 1 => by have := cq_le L q k; unfold cq; split <;> omega
theorem fnd_iff {L : List ByteArray} {x : ByteArray} : ∀ k, k ≤ L.length → (fnd L x k = true ↔ x ∈ L.take k)
  | 0, _ => by simp [fnd]
  | k + 1, hk => by
    have ih := fnd_iff (L := L) (x := x) k (by omega)
    unfold fnd
    rw [Bool.or_eq_true, ih, decide_eq_true_eq, take_one (by omega), List.mem_append, List.mem_singleton]
    exact ⟨fun h => h.imp id Eq.symm, fun h => h.imp id Eq.symm⟩
theorem cq_eq {L : List ByteArray} {q : ByteArray → Bool} : ∀ k, k ≤ L.length → cq L q k = (L.take k).countP q
  | 0, _ => by simp [cq]
  | k + 1, hk => by
    have ih := cq_eq (L := L) (q := q) k (by omega)
    unfold cq
    rw [ih, take_one (by omega), List.countP_append, List.countP_singleton]
theorem countP_one {l : List ByteArray} {z : ByteArray} (h : l.Nodup) (hz : z ∈ l) : l.countP (fun x => decide (x = z)) = 1 := by
  induction l with
  | nil => cases hz
  | cons y l ih =>
    have h1 := List.nodup_cons.1 h
    rw [List.countP_cons]
    by_cases e : y = z
    · subst e
      have h0 : l.countP (fun x => decide (x = y)) = 0 := List.countP_eq_zero.2 fun x hx => by
        rw [decide_eq_true_eq]; rintro rfl; exact h1.1 hx
      rw [h0]; simp
    · rcases List.mem_cons.1 hz with e2 | e2
      · exact absurd e2.symm e
      · rw [ih h1.2 e2]; simp [e]
/-- Whether a text of nine bytes begins with the same eight bytes as another. -/
def q8 (y z : ByteArray) : Bool := decide (z.size = 9) && decide (z.extract 0 8 = y.extract 0 8)
theorem ext8 {a b : Nat → Int} (ha : Bnd a) (hb : Bnd b) : (S9 a).extract 0 8 = (S9 b).extract 0 8 ↔ ∀ i, i < 8 → a i = b i := by
  constructor
  · intro h i hi
    have h1 := byt_cut (S9 a) i hi
    have h2 := byt_cut (S9 b) i hi
    rw [h, h2, byt_S9 ha i (by omega), byt_S9 hb i (by omega)] at h1
    exact h1.symm
  · intro h
    apply ba_ext
    rw [Lib.extract_data, Lib.extract_data]
    unfold S9
    rw [strOfNums_data, strOfNums_data, h 0 (by omega), h 1 (by omega), h 2 (by omega), h 3 (by omega), h 4 (by omega), h 5 (by omega), h 6 (by omega), h 7 (by omega)]
    simp
theorem ltr_upd8 (b : Nat → Int) (c : Int) : ltr (upd b 8 c) = ltr b := ltr_congr _ _ fun j hj => upd_other b c (by omega)
section
variable {x y : ByteArray} {b : Nat → Int} {i : Nat} {c : Int}
/-- What is near a number in which one byte has been replaced. -/
theorem near_of {x : ByteArray} (h : pe x = 0) {i : Nat} (hi : i < 9) {c : Int} (hc : fitB i c = true) (hcb : 0 ≤ c ∧ c ≤ 255) (hne : byt x i ≠ c) :
    pe (S9 (upd (byt x) i c)) = 24 ∧ fnd (nearS (S9 (upd (byt x) i c))) x (nearS (S9 (upd (byt x) i c))).length = true ∧ cq (nearS (S9 (upd (byt x) i c))) (q8 (S9 (upd (byt x) i c))) (nearS (S9 (upd (byt x) i c))).length = 1 ∧ ∀ k, k < (nearS (S9 (upd (byt x) i c))).length → (ge (nearS (S9 (upd (byt x) i c))) k).size = 9 := by
  obtain ⟨hl, hv⟩ := vl_pe h
  have hbd := bnd_byt x
  have hfit := vl_fit hv
  have hno := vl_one hi hv hc hne
  have hy := byt_upd hl hi hcb
  obtain ⟨y, hye⟩ : ∃ y, S9 (upd (byt x) i c) = y := ⟨_, rfl⟩
  have hys : y.size = 9 := by rw [← hye]; exact S9_size _
  rw [hye] at hy ⊢
  have hform : formB (upd (byt x) i c) = true := by rw [form_upd hi (fun j hj hn => hfit j hj)]; exact hc
  have hsh : shpB y = true := (shp_iff y).2 ⟨hys, by rw [hy]; exact hform⟩
  have hub := bnd_upd (i := i) hbd hcb
  rw [nearS_yes hsh, hy]
  have hp := srt_perm (near (upd (byt x) i c) 9)
  have hnd := near_nodup hub 9 (Nat.le_refl _)
  refine ⟨?_, ?_, ?_, ?_⟩
  · unfold pe
    rw [if_pos hsh, hy, if_neg hno]
  · rw [fnd_iff _ (Nat.le_refl _), List.take_length, hp.mem_iff, near_mem]
    obtain ⟨k, hk, hck⟩ := fit_chn hi (hfit i hi)
    refine ⟨i, hi, (rp_mem x _).2 ⟨k, hk, ?_, ?_⟩⟩
    · unfold okc
      rw [hck, upd_upd, upd_self, upd_same, decide_eq_true hne]
      unfold vl at hv
      rw [Bool.and_eq_true] at hv
      rw [hv.2]; rfl
    · rw [hck, upd_upd, upd_self, S9_byt x hl]
  · rw [cq_eq _ (Nat.le_refl _), List.take_length, hp.countP_eq]
    have hlet : letB (ltr (upd (byt x) i c)) = true := letB_ltr _
    obtain ⟨k, hk, hck⟩ := fit_chn (i := 8) (c := ltr (upd (byt x) i c)) (by omega) (by unfold fitB; rw [if_neg (by omega)]; exact hlet)
    have hz : S9 (upd (upd (byt x) i c) 8 (ltr (upd (byt x) i c))) ∈ near (upd (byt x) i c) 9 := by
      refine (near_mem _ 9).2 ⟨8, by omega, (rp_mem _ _).2 ⟨k, hk, ?_, by rw [hck]⟩⟩
      unfold okc
      rw [hck, ltr_upd8, upd_same, decide_eq_true hno, decide_eq_true rfl]; rfl
    rw [← countP_one hnd hz]
    refine List.countP_congr fun z hz => ?_
    obtain ⟨m, hm, hx⟩ := (near_mem z 9).1 hz
    obtain ⟨n, hn, hok, rfl⟩ := (rp_mem z _).1 hx
    have hcn := chn_u8 hn
    have hlb := ltr_bd (upd (byt x) i c)
    unfold q8
    rw [Bool.and_eq_true, decide_eq_true_eq, decide_eq_true_eq, decide_eq_true_eq, ← hye, ext8 (bnd_upd hub hcn) hub]
    constructor
    · rintro ⟨_, h8⟩
      have hm8 : m = 8 := by
        rcases Nat.lt_or_ge m 8 with h1 | h1
        · have := h8 m h1
          rw [upd_same] at this
          exact absurd this (okc_ne hok)
        · omega
      subst hm8
      have := okc_vl hok
      rw [ltr_upd8, upd_same] at this
      rw [this]
    · intro e
      refine ⟨S9_size _, fun j hj => ?_⟩
      have := S9_inj (bnd_upd hub hcn) (bnd_upd hub (by omega)) e j (by omega)
      rw [this, upd_other _ _ (by omega)]
  · intro k hk
    have hm := (hp.mem_iff).1 (ge_mem _ k hk)
    obtain ⟨m, hm, hx⟩ := (near_mem _ 9).1 hm
    obtain ⟨n, hn, hok, hx⟩ := (rp_mem _ _).1 hx
    rw [hx]; exact S9_size _
end
attribute [local go_sem] conv1d strOfNums_size

set_option maxHeartbeats 8000000 in
set_option maxRecDepth 100000 in
theorem detects_any (n a by_ : Int) (hn : I64 n) (ha : I64 a) (hd : I64 by_) (w : World) :
    Calls Try.prog 11 #[.int .i64 n, .int .i64 a, .int .i64 by_] w fun e w' => e = .returned (.bool true) ∧ Below w.heap.size w w' := by
  have t1 := td_I64 n 128 hn.1 hn.2 (by omega)
  have t2 := td_I64 n 16384 hn.1 hn.2 (by omega)
  have K1 := Lib.hid (cut_any n 100 (by omega) (by omega) hn.1 hn.2)
  have K2 := Lib.hid (cut_any (n.tdiv 128) 100 (by omega) (by omega) t1.1 t1.2)
  have K3 := Lib.hid (cut_any (n.tdiv 16384) 10000 (by omega) (by omega) t2.1 t2.2)
  have K4 := Lib.hid (cut_any a 9 (by omega) (by omega) ha.1 ha.2)
  have K5 := Lib.hid (cut_any by_ 10 (by omega) (by omega) hd.1 hd.2)
  have K6 := Lib.hid (cut_any by_ 23 (by omega) (by omega) hd.1 hd.2)
  have a0 := Int.emod_nonneg n (show (100 : Int) ≠ 0 by omega)
  have a1 := Int.emod_lt_of_pos n (show (0 : Int) < 100 by omega)
  have b0 := Int.emod_nonneg (n.tdiv 128) (show (100 : Int) ≠ 0 by omega)
  have b1 := Int.emod_lt_of_pos (n.tdiv 128) (show (0 : Int) < 100 by omega)
  have c0 := Int.emod_nonneg (n.tdiv 16384) (show (10000 : Int) ≠ 0 by omega)
  have c1 := Int.emod_lt_of_pos (n.tdiv 16384) (show (0 : Int) < 10000 by omega)
  have i0 := Int.emod_nonneg a (show (9 : Int) ≠ 0 by omega)
  have i1 := Int.emod_lt_of_pos a (show (0 : Int) < 9 by omega)
  have k0 := Int.emod_nonneg by_ (show (10 : Int) ≠ 0 by omega)
  have k1 := Int.emod_lt_of_pos by_ (show (0 : Int) < 10 by omega)
  have l0 := Int.emod_nonneg by_ (show (23 : Int) ≠ 0 by omega)
  have l1 := Int.emod_lt_of_pos by_ (show (0 : Int) < 23 by omega)
  generalize n % 100 = A at *
  generalize n.tdiv 128 % 100 = B at *
  generalize n.tdiv 16384 % 10000 = C at *
  obtain ⟨p, hp⟩ := Int.eq_ofNat_of_zero_le i0
  obtain ⟨q, hq⟩ := Int.eq_ofNat_of_zero_le k0
  obtain ⟨r, hr⟩ := Int.eq_ofNat_of_zero_le l0
  rw [hp] at i0 i1 K4
  rw [hq] at k0 k1 K5
  rw [hr] at l0 l1 K6
  have KF := Lib.hid (format_yes A B C (by simp [vldB]; omega))
  obtain ⟨M, hM⟩ : ∃ M, (A * 100 + B) * 100 * 100 + C = M := ⟨_, rfl⟩
  rw [hM] at KF
  have hn0 := hn.1
  have hn1 := hn.2
  have hpx := pe_fmt M
  have hsz := fmt_size M
  generalize fmtS M = x at *
  have hby : ∀ (j : Nat) (h : j < x.size), ((x[j]'h).toNat : Int) = byt x j := fun j h => (byt_at x j h).symm
  have hp9 : p < 9 := by omega
  have hq10 : q < (⟨#[48, 49, 50, 51, 52, 53, 54, 55, 56, 57]⟩ : ByteArray).size := by show q < 10; omega
  have hr23 : r < (⟨#[65, 66, 67, 68, 69, 70, 71, 72, 74, 75, 76, 77, 78, 80, 81, 82, 83, 84, 85, 86, 87, 88, 89]⟩ : ByteArray).size := by show r < 23; omega
  have e1 : (((⟨#[48, 49, 50, 51, 52, 53, 54, 55, 56, 57]⟩ : ByteArray)[q]'hq10).toNat : Int) = 48 + (q : Int) := d10_at' ⟨q, hq10⟩
  have e2 : (((⟨#[65, 66, 67, 68, 69, 70, 71, 72, 74, 75, 76, 77, 78, 80, 81, 82, 83, 84, 85, 86, 87, 88, 89]⟩ : ByteArray)[r]'hr23).toNat : Int) = let_ (r : Int) := l23_at' ⟨r, hr23⟩
  have hrb := let_b r hr23
  have HX := Lib.hid hpx
  have Hz := Lib.hid hsz
  clear hn ha hd hM hp hq hr t1 t2 hpx
  obtain ⟨z8a, z8b⟩ : ((p : Int) == 8) = decide (p = 8) ∧ (p == 8) = decide (p = 8) := by
    constructor <;> rw [Bool.eq_iff_iff] <;> simp <;> omega
  have hct : ∃ ct : Int, ct = (if p = 8 then let_ (r : Int) else 48 + (q : Int)) ∧ fitB p ct = true ∧ 0 ≤ ct ∧ ct ≤ 255 := by
    by_cases e : p = 8
    · refine ⟨_, rfl, ?_, ?_, ?_⟩
      · rw [if_pos e, e]; unfold fitB; rw [if_neg (by omega)]; exact (letB_at _).2 ⟨r, hr23, rfl⟩
      · rw [if_pos e]; omega
      · rw [if_pos e]; omega
    · refine ⟨_, rfl, ?_, ?_, ?_⟩
      · rw [if_neg e]; unfold fitB digB; rw [if_pos (by omega)]; exact decide_eq_true (by omega)
      · rw [if_neg e]; omega
      · rw [if_neg e]; omega
  obtain ⟨ct, hct, hfit, hct0, hct1⟩ := hct
  have Hfit := Lib.hid hfit
  clear hfit
  by_cases h8 : p = 8
  · rw [decide_eq_true h8] at z8a z8b
    rw [if_pos h8] at hct
    subst hct
    clear h8
    by_cases hbc : byt x p = let_ (r : Int)
    · have hb1 : (byt x p == let_ (r : Int)) = true := beq_iff_eq.2 hbc
      have HN := Lib.hid (nearS_valid HX.out)
      have F1 := Lib.hid (fun W => near_any x (by rw [Hz.out]; unfold maxLen; omega) W)
      rw [HN.out] at F1
      clear hbc
      go_enter Try.func11, Try.ntmps11
      go_wp2_with fail
      refine (K1.out _).mono ?_
      rintro e w1 ⟨rfl, rfl⟩
      go_wp2_with fail
      refine (K2.out _).mono ?_
      rintro e w1 ⟨rfl, rfl⟩
      go_wp2_with fail
      refine (K3.out _).mono ?_
      rintro e w1 ⟨rfl, rfl⟩
      go_wp2_with fail
      refine (KF.out _).mono ?_
      rintro e w1 ⟨rfl, hb1'⟩
      go_wp2_with fail
      refine (K4.out _).mono ?_
      rintro e w2 ⟨rfl, rfl⟩
      go_wp2_with fail
      refine (K5.out _).mono ?_
      rintro e w2 ⟨rfl, rfl⟩
      go_wp2_with fail
      refine (K6.out _).mono ?_
      rintro e w2 ⟨rfl, rfl⟩
      go_wp2_with fail
      refine (F1.out _).mono ?_
      rintro e w3 ⟨v, rfl, hs, hb3⟩
      obtain ⟨Av, cv, rfl, -⟩ := hs.rd
      have hb4 := Mw.bl_trans hb1' hb3
      clear hs hb3 F1
      go_wp2_with fail
      refine (awake_any _).mono ?_
      rintro e w5 ⟨rfl, hb5⟩
      go_wp2_with fail
      go_ret
      exact ⟨rfl, Mw.bl_trans hb4 hb5⟩
    · have hb1 : (byt x p == let_ (r : Int)) = false := beq_eq_false_iff_ne.2 hbc
      obtain ⟨pe24, fd, cqq, sz9⟩ := near_of HX.out hp9 Hfit.out ⟨hct0, hct1⟩ hbc
      have Pe := Lib.hid pe24
      have Fd := Lib.hid fd
      have Cq := Lib.hid cqq
      have Sz := Lib.hid sz9
      have hm9 : (p : Int) ≤ 9 := by omega
      have hm9' : (p : Int) + 1 ≤ 9 := by omega
      clear hbc pe24 fd cqq sz9
      go_enter Try.func11, Try.ntmps11
      go_wp2_with fail
      refine (K1.out _).mono ?_
      rintro e w1 ⟨rfl, rfl⟩
      go_wp2_with fail
      refine (K2.out _).mono ?_
      rintro e w1 ⟨rfl, rfl⟩
      go_wp2_with fail
      refine (K3.out _).mono ?_
      rintro e w1 ⟨rfl, rfl⟩
      go_wp2_with fail
      refine (KF.out _).mono ?_
      rintro e w1 ⟨rfl, hb1'⟩
      go_wp2_with fail
      refine (K4.out _).mono ?_
      rintro e w2 ⟨rfl, rfl⟩
      go_wp2_with fail
      refine (K5.out _).mono ?_
      rintro e w2 ⟨rfl, rfl⟩
      go_wp2_with fail
      refine (K6.out _).mono ?_
      rintro e w2 ⟨rfl, rfl⟩
      go_wp2_with fail
      go_region
      all_goals
        rw [cut_upd x Hz.out hp9]
        have hbV : Below w.heap.size w (w1.alloc (.cells #[.int .u8 (let_ (r : Int))] 5)).drew := by (repeat (first | with_reducible exact Below.refl _ _ | with_reducible refine bl_drewN ?_ _ | with_reducible refine Below.drew ?_ | with_reducible refine bl_alloc ?_ _ | with_reducible refine Below.alloc ?_ (by first | omega | (simp; done) | (simp; omega)) _ | with_reducible refine Below.setCell ?_ (by first | omega | (simp; done) | (simp; omega)) _ | with_reducible assumption))
        generalize (w1.alloc (.cells #[.int .u8 (let_ (r : Int))] 5)).drew = V at hbV ⊢
        have hys := S9_size (upd (byt x) p (let_ (r : Int)))
        generalize S9 (upd (byt x) p (let_ (r : Int))) = y at Pe Fd Cq Sz hys ⊢
        have Hys := Lib.hid hys
        clear hby hb1 hm9 hm9' hb1' hys e1 e2 hq10 hr23
        have hpr := parse_any y (by rw [Hys.out]; unfold maxLen; omega)
        have F2 := Lib.hid (fun W => near_any y (by rw [Hys.out]; unfold maxLen; omega) W)
        have hL := nearS_len y
        generalize nearS y = L at Fd Cq Sz F2 hL
        go_wp2_with fail
        refine (hpr _).mono ?_
        rintro e w3 ⟨rfl, hb3⟩
        rw [Pe.out]
        clear hpr
        have hb4 := Mw.bl_trans hbV hb3
        clear hb3 hbV
        go_wp2_with fail
        refine (F2.out _).mono ?_
        rintro e w5 ⟨v, rfl, hs, hb5⟩
        obtain ⟨Av, cv, rfl, hr⟩ := hs.rd
        have hb6 : Below w.heap.size w w5 := Mw.bl_trans (Mw.bl_alloc hb4 _) hb5
        clear hs hb4 hb5 F2
        go_wp2_with fail
        go_loopw [13, 14, 16] (fun f c j wr => ∃ k : Nat, k ≤ L.length ∧ j = .int .i64 k ∧ f = .bool (fnd L x k) ∧ c = .int .i64 ((cq L (q8 y) k : Nat) : Int) ∧ Below w5.heap.size w5 wr) (fun _ _ j _ => L.length - (intOf j).toNat)
        case atStart => exact ⟨0, Nat.zero_le _, rfl, rfl, rfl, Below.refl _ _⟩
        case round =>
          obtain ⟨k, hk, rfl, rfl, rfl, hb7⟩ := hrel
          by_cases hlt : k < L.length
          · obtain ⟨ab, af, ae, hbl, hc⟩ := (hr.old hb7) k hlt
            subst ae
            have hk' : (k : Int) < L.length := by omega
            have hk0 : (0 : Int) ≤ k := by omega
            have ht9 := Sz.out k hlt
            have hcl := cq_le L (q8 y) k
            have hys9 := Hys.out
            have HF : Hid (fnd L x (k + 1) = (fnd L x k || decide (ge L k = x))) := rfl
            have HC : Hid (cq L (q8 y) (k + 1) = cq L (q8 y) k + if q8 y (ge L k) = true then 1 else 0) := rfl
            cases hf : fnd L x k
            · by_cases hx : ge L k = x
              · have b1 : ((ge L k).toList == x.toList) = true := by rw [streq]; exact decide_eq_true hx
                have HF2 : Hid (fnd L x (k + 1) = true) := by unfold Hid; rw [HF.out, decide_eq_true hx, Bool.or_true]
                clear hx
                by_cases h8 : (ge L k).extract 0 8 = y.extract 0 8
                · have b3 : (((ge L k).extract 0 8).toList == (y.extract 0 8).toList) = true := by rw [streq]; exact decide_eq_true h8
                  have HC2 : Hid (cq L (q8 y) (k + 1) = cq L (q8 y) k + 1) := by unfold Hid; rw [HC.out, if_pos (by unfold q8; rw [decide_eq_true ht9, decide_eq_true h8]; rfl)]
                  clear h8
                  generalize ge L k = t at *
                  go_wp2_with fail
                  refine Mm.region_ext (by kernel_rfl) (by kernel_rfl) ?_; (repeat (first | go_big_quiet_step ((fail)) | quiet_step ((fail)))); refine wpQuiet_nil ?_
                  intro w6 hb6
                  go_wp2_with fail
                  go_roundw
                  case rel => exact ⟨k + 1, by omega, by go_num, by rw [HF2.out], by rw [HC2.out]; go_num, Mw.bl_trans hb7 hb6⟩
                  case measure => simp [intOf]; omega
                · have b3 : (((ge L k).extract 0 8).toList == (y.extract 0 8).toList) = false := by rw [streq]; exact decide_eq_false h8
                  have HC2 : Hid (cq L (q8 y) (k + 1) = cq L (q8 y) k) := by unfold Hid; rw [HC.out, if_neg (by unfold q8; rw [decide_eq_false h8]; simp)]; rfl
                  clear h8
                  generalize ge L k = t at *
                  go_wp2_with fail
                  refine Mm.region_ext (by kernel_rfl) (by kernel_rfl) ?_; (repeat (first | go_big_quiet_step ((fail)) | quiet_step ((fail)))); refine wpQuiet_nil ?_
                  intro w6 hb6
                  go_wp2_with fail
                  go_roundw
                  case rel => exact ⟨k + 1, by omega, by go_num, by rw [HF2.out], by rw [HC2.out], Mw.bl_trans hb7 hb6⟩
                  case measure => simp [intOf]; omega
              · have b1 : ((ge L k).toList == x.toList) = false := by rw [streq]; exact decide_eq_false hx
                have HF2 : Hid (fnd L x (k + 1) = false) := by unfold Hid; rw [HF.out, decide_eq_false hx, hf]; rfl
                clear hx
                by_cases h8 : (ge L k).extract 0 8 = y.extract 0 8
                · have b3 : (((ge L k).extract 0 8).toList == (y.extract 0 8).toList) = true := by rw [streq]; exact decide_eq_true h8
                  have HC2 : Hid (cq L (q8 y) (k + 1) = cq L (q8 y) k + 1) := by unfold Hid; rw [HC.out, if_pos (by unfold q8; rw [decide_eq_true ht9, decide_eq_true h8]; rfl)]
                  clear h8
                  generalize ge L k = t at *
                  go_wp2_with fail
                  refine Mm.region_ext (by kernel_rfl) (by kernel_rfl) ?_; (repeat (first | go_big_quiet_step ((fail)) | quiet_step ((fail)))); refine wpQuiet_nil ?_
                  intro w6 hb6
                  go_wp2_with fail
                  go_roundw
                  case rel => exact ⟨k + 1, by omega, by go_num, by rw [HF2.out], by rw [HC2.out]; go_num, Mw.bl_trans hb7 hb6⟩
                  case measure => simp [intOf]; omega
                · have b3 : (((ge L k).extract 0 8).toList == (y.extract 0 8).toList) = false := by rw [streq]; exact decide_eq_false h8
                  have HC2 : Hid (cq L (q8 y) (k + 1) = cq L (q8 y) k) := by unfold Hid; rw [HC.out, if_neg (by unfold q8; rw [decide_eq_false h8]; simp)]; rfl
                  clear h8
                  generalize ge L k = t at *
                  go_wp2_with fail
                  refine Mm.region_ext (by kernel_rfl) (by kernel_rfl) ?_; (repeat (first | go_big_quiet_step ((fail)) | quiet_step ((fail)))); refine wpQuiet_nil ?_
                  intro w6 hb6
                  go_wp2_with fail
                  go_roundw
                  case rel => exact ⟨k + 1, by omega, by go_num, by rw [HF2.out], by rw [HC2.out], Mw.bl_trans hb7 hb6⟩
                  case measure => simp [intOf]; omega
            · have HF2 : Hid (fnd L x (k + 1) = true) := by unfold Hid; rw [HF.out, hf, Bool.true_or]
              by_cases h8 : (ge L k).extract 0 8 = y.extract 0 8
              · have b3 : (((ge L k).extract 0 8).toList == (y.extract 0 8).toList) = true := by rw [streq]; exact decide_eq_true h8
                have HC2 : Hid (cq L (q8 y) (k + 1) = cq L (q8 y) k + 1) := by unfold Hid; rw [HC.out, if_pos (by unfold q8; rw [decide_eq_true ht9, decide_eq_true h8]; rfl)]
                clear h8
                generalize ge L k = t at *
                go_wp2_with fail
                refine Mm.region_ext (by kernel_rfl) (by kernel_rfl) ?_; (repeat (first | go_big_quiet_step ((fail)) | quiet_step ((fail)))); refine wpQuiet_nil ?_
                intro w6 hb6
                go_wp2_with fail
                go_roundw
                case rel => exact ⟨k + 1, by omega, by go_num, by rw [HF2.out], by rw [HC2.out]; go_num, Mw.bl_trans hb7 hb6⟩
                case measure => simp [intOf]; omega
              · have b3 : (((ge L k).extract 0 8).toList == (y.extract 0 8).toList) = false := by rw [streq]; exact decide_eq_false h8
                have HC2 : Hid (cq L (q8 y) (k + 1) = cq L (q8 y) k) := by unfold Hid; rw [HC.out, if_neg (by unfold q8; rw [decide_eq_false h8]; simp)]; rfl
                clear h8
                generalize ge L k = t at *
                go_wp2_with fail
                refine Mm.region_ext (by kernel_rfl) (by kernel_rfl) ?_; (repeat (first | go_big_quiet_step ((fail)) | quiet_step ((fail)))); refine wpQuiet_nil ?_
                intro w6 hb6
                go_wp2_with fail
                go_roundw
                case rel => exact ⟨k + 1, by omega, by go_num, by rw [HF2.out], by rw [HC2.out], Mw.bl_trans hb7 hb6⟩
                case measure => simp [intOf]; omega
          · obtain rfl : k = L.length := by omega
            rw [Fd.out, Cq.out]
            have hb8 := Mw.bl_trans hb6 hb7
            go_wp2_with fail
            refine (awake_any _).mono ?_
            rintro e w9 ⟨rfl, hb9⟩
            go_wp2_with fail
            go_ret
            exact ⟨rfl, Mw.bl_trans hb8 hb9⟩
  · rw [decide_eq_false h8] at z8a z8b
    rw [if_neg h8] at hct
    subst hct
    clear h8
    by_cases hbc : byt x p = 48 + (q : Int)
    · have hb1 : (byt x p == 48 + (q : Int)) = true := beq_iff_eq.2 hbc
      have HN := Lib.hid (nearS_valid HX.out)
      have F1 := Lib.hid (fun W => near_any x (by rw [Hz.out]; unfold maxLen; omega) W)
      rw [HN.out] at F1
      clear hbc
      go_enter Try.func11, Try.ntmps11
      go_wp2_with fail
      refine (K1.out _).mono ?_
      rintro e w1 ⟨rfl, rfl⟩
      go_wp2_with fail
      refine (K2.out _).mono ?_
      rintro e w1 ⟨rfl, rfl⟩
      go_wp2_with fail
      refine (K3.out _).mono ?_
      rintro e w1 ⟨rfl, rfl⟩
      go_wp2_with fail
      refine (KF.out _).mono ?_
      rintro e w1 ⟨rfl, hb1'⟩
      go_wp2_with fail
      refine (K4.out _).mono ?_
      rintro e w2 ⟨rfl, rfl⟩
      go_wp2_with fail
      refine (K5.out _).mono ?_
      rintro e w2 ⟨rfl, rfl⟩
      go_wp2_with fail
      refine (F1.out _).mono ?_
      rintro e w3 ⟨v, rfl, hs, hb3⟩
      obtain ⟨Av, cv, rfl, -⟩ := hs.rd
      have hb4 := Mw.bl_trans hb1' hb3
      clear hs hb3 F1
      go_wp2_with fail
      refine (awake_any _).mono ?_
      rintro e w5 ⟨rfl, hb5⟩
      go_wp2_with fail
      go_ret
      exact ⟨rfl, Mw.bl_trans hb4 hb5⟩
    · have hb1 : (byt x p == 48 + (q : Int)) = false := beq_eq_false_iff_ne.2 hbc
      obtain ⟨pe24, fd, cqq, sz9⟩ := near_of HX.out hp9 Hfit.out ⟨hct0, hct1⟩ hbc
      have Pe := Lib.hid pe24
      have Fd := Lib.hid fd
      have Cq := Lib.hid cqq
      have Sz := Lib.hid sz9
      have hm9 : (p : Int) ≤ 9 := by omega
      have hm9' : (p : Int) + 1 ≤ 9 := by omega
      clear hbc pe24 fd cqq sz9
      go_enter Try.func11, Try.ntmps11
      go_wp2_with fail
      refine (K1.out _).mono ?_
      rintro e w1 ⟨rfl, rfl⟩
      go_wp2_with fail
      refine (K2.out _).mono ?_
      rintro e w1 ⟨rfl, rfl⟩
      go_wp2_with fail
      refine (K3.out _).mono ?_
      rintro e w1 ⟨rfl, rfl⟩
      go_wp2_with fail
      refine (KF.out _).mono ?_
      rintro e w1 ⟨rfl, hb1'⟩
      go_wp2_with fail
      refine (K4.out _).mono ?_
      rintro e w2 ⟨rfl, rfl⟩
      go_wp2_with fail
      refine (K5.out _).mono ?_
      rintro e w2 ⟨rfl, rfl⟩
      go_wp2_with fail
      go_region
      all_goals
        rw [cut_upd x Hz.out hp9]
        have hbV : Below w.heap.size w (w1.alloc (.cells #[.int .u8 (48 + (q : Int))] 5)).drew := by (repeat (first | with_reducible exact Below.refl _ _ | with_reducible refine bl_drewN ?_ _ | with_reducible refine Below.drew ?_ | with_reducible refine bl_alloc ?_ _ | with_reducible refine Below.alloc ?_ (by first | omega | (simp; done) | (simp; omega)) _ | with_reducible refine Below.setCell ?_ (by first | omega | (simp; done) | (simp; omega)) _ | with_reducible assumption))
        generalize (w1.alloc (.cells #[.int .u8 (48 + (q : Int))] 5)).drew = V at hbV ⊢
        have hys := S9_size (upd (byt x) p (48 + (q : Int)))
        generalize S9 (upd (byt x) p (48 + (q : Int))) = y at Pe Fd Cq Sz hys ⊢
        have Hys := Lib.hid hys
        clear hby hb1 hm9 hm9' hb1' hys e1 e2 hq10 hr23
        have hpr := parse_any y (by rw [Hys.out]; unfold maxLen; omega)
        have F2 := Lib.hid (fun W => near_any y (by rw [Hys.out]; unfold maxLen; omega) W)
        have hL := nearS_len y
        generalize nearS y = L at Fd Cq Sz F2 hL
        go_wp2_with fail
        refine (hpr _).mono ?_
        rintro e w3 ⟨rfl, hb3⟩
        rw [Pe.out]
        clear hpr
        have hb4 := Mw.bl_trans hbV hb3
        clear hb3 hbV
        go_wp2_with fail
        refine (F2.out _).mono ?_
        rintro e w5 ⟨v, rfl, hs, hb5⟩
        obtain ⟨Av, cv, rfl, hr⟩ := hs.rd
        have hb6 : Below w.heap.size w w5 := Mw.bl_trans (Mw.bl_alloc hb4 _) hb5
        clear hs hb4 hb5 F2
        go_wp2_with fail
        go_loopw [13, 14, 16] (fun f c j wr => ∃ k : Nat, k ≤ L.length ∧ j = .int .i64 k ∧ f = .bool (fnd L x k) ∧ c = .int .i64 ((cq L (q8 y) k : Nat) : Int) ∧ Below w5.heap.size w5 wr) (fun _ _ j _ => L.length - (intOf j).toNat)
        case atStart => exact ⟨0, Nat.zero_le _, rfl, rfl, rfl, Below.refl _ _⟩
        case round =>
          obtain ⟨k, hk, rfl, rfl, rfl, hb7⟩ := hrel
          by_cases hlt : k < L.length
          · obtain ⟨ab, af, ae, hbl, hc⟩ := (hr.old hb7) k hlt
            subst ae
            have hk' : (k : Int) < L.length := by omega
            have hk0 : (0 : Int) ≤ k := by omega
            have ht9 := Sz.out k hlt
            have hcl := cq_le L (q8 y) k
            have hys9 := Hys.out
            have HF : Hid (fnd L x (k + 1) = (fnd L x k || decide (ge L k = x))) := rfl
            have HC : Hid (cq L (q8 y) (k + 1) = cq L (q8 y) k + if q8 y (ge L k) = true then 1 else 0) := rfl
            cases hf : fnd L x k
            · by_cases hx : ge L k = x
              · have b1 : ((ge L k).toList == x.toList) = true := by rw [streq]; exact decide_eq_true hx
                have HF2 : Hid (fnd L x (k + 1) = true) := by unfold Hid; rw [HF.out, decide_eq_true hx, Bool.or_true]
                clear hx
                by_cases h8 : (ge L k).extract 0 8 = y.extract 0 8
                · have b3 : (((ge L k).extract 0 8).toList == (y.extract 0 8).toList) = true := by rw [streq]; exact decide_eq_true h8
                  have HC2 : Hid (cq L (q8 y) (k + 1) = cq L (q8 y) k + 1) := by unfold Hid; rw [HC.out, if_pos (by unfold q8; rw [decide_eq_true ht9, decide_eq_true h8]; rfl)]
                  clear h8
                  generalize ge L k = t at *
                  go_wp2_with fail
                  refine Mm.region_ext (by kernel_rfl) (by kernel_rfl) ?_; (repeat (first | go_big_quiet_step ((fail)) | quiet_step ((fail)))); refine wpQuiet_nil ?_
                  intro w6 hb6
                  go_wp2_with fail
                  go_roundw
                  case rel => exact ⟨k + 1, by omega, by go_num, by rw [HF2.out], by rw [HC2.out]; go_num, Mw.bl_trans hb7 hb6⟩
                  case measure => simp [intOf]; omega
                · have b3 : (((ge L k).extract 0 8).toList == (y.extract 0 8).toList) = false := by rw [streq]; exact decide_eq_false h8
                  have HC2 : Hid (cq L (q8 y) (k + 1) = cq L (q8 y) k) := by unfold Hid; rw [HC.out, if_neg (by unfold q8; rw [decide_eq_false h8]; simp)]; rfl
                  clear h8
                  generalize ge L k = t at *
                  go_wp2_with fail
                  refine Mm.region_ext (by kernel_rfl) (by kernel_rfl) ?_; (repeat (first | go_big_quiet_step ((fail)) | quiet_step ((fail)))); refine wpQuiet_nil ?_
                  intro w6 hb6
                  go_wp2_with fail
                  go_roundw
                  case rel => exact ⟨k + 1, by omega, by go_num, by rw [HF2.out], by rw [HC2.out], Mw.bl_trans hb7 hb6⟩
                  case measure => simp [intOf]; omega
              · have b1 : ((ge L k).toList == x.toList) = false := by rw [streq]; exact decide_eq_false hx
                have HF2 : Hid (fnd L x (k + 1) = false) := by unfold Hid; rw [HF.out, decide_eq_false hx, hf]; rfl
                clear hx
                by_cases h8 : (ge L k).extract 0 8 = y.extract 0 8
                · have b3 : (((ge L k).extract 0 8).toList == (y.extract 0 8).toList) = true := by rw [streq]; exact decide_eq_true h8
                  have HC2 : Hid (cq L (q8 y) (k + 1) = cq L (q8 y) k + 1) := by unfold Hid; rw [HC.out, if_pos (by unfold q8; rw [decide_eq_true ht9, decide_eq_true h8]; rfl)]
                  clear h8
                  generalize ge L k = t at *
                  go_wp2_with fail
                  refine Mm.region_ext (by kernel_rfl) (by kernel_rfl) ?_; (repeat (first | go_big_quiet_step ((fail)) | quiet_step ((fail)))); refine wpQuiet_nil ?_
                  intro w6 hb6
                  go_wp2_with fail
                  go_roundw
                  case rel => exact ⟨k + 1, by omega, by go_num, by rw [HF2.out], by rw [HC2.out]; go_num, Mw.bl_trans hb7 hb6⟩
                  case measure => simp [intOf]; omega
                · have b3 : (((ge L k).extract 0 8).toList == (y.extract 0 8).toList) = false := by rw [streq]; exact decide_eq_false h8
                  have HC2 : Hid (cq L (q8 y) (k + 1) = cq L (q8 y) k) := by unfold Hid; rw [HC.out, if_neg (by unfold q8; rw [decide_eq_false h8]; simp)]; rfl
                  clear h8
                  generalize ge L k = t at *
                  go_wp2_with fail
                  refine Mm.region_ext (by kernel_rfl) (by kernel_rfl) ?_; (repeat (first | go_big_quiet_step ((fail)) | quiet_step ((fail)))); refine wpQuiet_nil ?_
                  intro w6 hb6
                  go_wp2_with fail
                  go_roundw
                  case rel => exact ⟨k + 1, by omega, by go_num, by rw [HF2.out], by rw [HC2.out], Mw.bl_trans hb7 hb6⟩
                  case measure => simp [intOf]; omega
            · have HF2 : Hid (fnd L x (k + 1) = true) := by unfold Hid; rw [HF.out, hf, Bool.true_or]
              by_cases h8 : (ge L k).extract 0 8 = y.extract 0 8
              · have b3 : (((ge L k).extract 0 8).toList == (y.extract 0 8).toList) = true := by rw [streq]; exact decide_eq_true h8
                have HC2 : Hid (cq L (q8 y) (k + 1) = cq L (q8 y) k + 1) := by unfold Hid; rw [HC.out, if_pos (by unfold q8; rw [decide_eq_true ht9, decide_eq_true h8]; rfl)]
                clear h8
                generalize ge L k = t at *
                go_wp2_with fail
                refine Mm.region_ext (by kernel_rfl) (by kernel_rfl) ?_; (repeat (first | go_big_quiet_step ((fail)) | quiet_step ((fail)))); refine wpQuiet_nil ?_
                intro w6 hb6
                go_wp2_with fail
                go_roundw
                case rel => exact ⟨k + 1, by omega, by go_num, by rw [HF2.out], by rw [HC2.out]; go_num, Mw.bl_trans hb7 hb6⟩
                case measure => simp [intOf]; omega
              · have b3 : (((ge L k).extract 0 8).toList == (y.extract 0 8).toList) = false := by rw [streq]; exact decide_eq_false h8
                have HC2 : Hid (cq L (q8 y) (k + 1) = cq L (q8 y) k) := by unfold Hid; rw [HC.out, if_neg (by unfold q8; rw [decide_eq_false h8]; simp)]; rfl
                clear h8
                generalize ge L k = t at *
                go_wp2_with fail
                refine Mm.region_ext (by kernel_rfl) (by kernel_rfl) ?_; (repeat (first | go_big_quiet_step ((fail)) | quiet_step ((fail)))); refine wpQuiet_nil ?_
                intro w6 hb6
                go_wp2_with fail
                go_roundw
                case rel => exact ⟨k + 1, by omega, by go_num, by rw [HF2.out], by rw [HC2.out], Mw.bl_trans hb7 hb6⟩
                case measure => simp [intOf]; omega
          · obtain rfl : k = L.length := by omega
            rw [Fd.out, Cq.out]
            have hb8 := Mw.bl_trans hb6 hb7
            go_wp2_with fail
            refine (awake_any _).mono ?_
            rintro e w9 ⟨rfl, hb9⟩
            go_wp2_with fail
            go_ret
            exact ⟨rfl, Mw.bl_trans hb8 hb9⟩
end Go.Proofs.Ytpdekglmmgecmaa.Id
