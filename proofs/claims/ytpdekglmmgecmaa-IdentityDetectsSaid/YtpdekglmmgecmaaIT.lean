/- Walk: the statement IdentityTwins. -/
import Derived.Test.YtpdekglmmgecmaaIS
import Derived.Test.YtpdekglmmgecmaaIQ
import Derived.WalkKit
import Derived.WalkSpells
import Derived.WalkLawsBesides
import Derived.Deep.QuietTactic
import Derived.BigQuiet
import Derived.Deep.Draws
import Derived.Deep.AppendLies
import Derived.Laws.OwnMore
import Derived.Laws.BytesArg
import Derived.Lib.Hide
import Derived.Deep.LoopGhost
import Derived.RegionTactic
namespace Go.Proofs.Ytpdekglmmgecmaa.Id
open Go.RowKit
set_option linter.unusedSimpArgs false
set_option linter.unusedVariables false
set_option linter.unusedSimpArgs false

/-- One place replaced. -/
def upd (b : Nat → Int) (i : Nat) (v : Int) : Nat → Int := fun j => if j = i then v else b j
theorem upd_dig (b : Nat → Int) (i : Nat) (v : Int) (hv : 48 ≤ v ∧ v ≤ 57) (h : Dig8 b) : Dig8 (upd b i v) := fun j hj => by
  unfold upd
  by_cases e : j = i
  · rw [if_pos e]; exact hv
  · rw [if_neg e]; exact h j hj
set_option maxHeartbeats 2000000 in
theorem twin_ne (b : Nat → Int) (i : Nat) (hi : i < 7) (v : Int) (hv : 48 ≤ v ∧ v ≤ 57) (h : Dig8 b) (he : b (i + 1) = b i) (hne : b i ≠ v) : lsum (upd (upd b i v) (i + 1) v) % 23 ≠ lsum b % 23 := by
  rw [lsum_dig _ (upd_dig _ _ _ hv (upd_dig _ _ _ hv h)), lsum_dig _ h]
  have h0 := h 0 (by omega); have h1 := h 1 (by omega); have h2 := h 2 (by omega); have h3 := h 3 (by omega)
  have h4 := h 4 (by omega); have h5 := h 5 (by omega); have h6 := h 6 (by omega); have h7 := h 7 (by omega)
  have ei : i = 0 ∨ i = 1 ∨ i = 2 ∨ i = 3 ∨ i = 4 ∨ i = 5 ∨ i = 6 := by omega
  clear h
  rcases ei with h | h | h | h | h | h | h <;> subst h <;> simp [upd] at he hne ⊢ <;> omega

/-- Eight bytes as a list. -/
abbrev l8 (b : Nat → Int) : List Int := [b 0, b 1, b 2, b 3, b 4, b 5, b 6, b 7]
theorem conv8 (W : World) (g cap n : Nat) (b : Nat → Int) (hn : 8 ≤ n) (h : CellsF W g n b) : (convert 34 9 (.slice (some ⟨g, 0, none⟩) 8 cap)).run Try.prog W = .ok (.string (strOfNums (l8 b))) W := by
  refine run_convert_bytes_arg (P := Try.prog) W 34 5 Try.underlying34 Try.underlying5 g 0 8 cap _ rfl (fun i hi => ?_) 9 Try.underlying9
  rw [Nat.zero_add, (h i (by omega)).1]
  have : i = 0 ∨ i = 1 ∨ i = 2 ∨ i = 3 ∨ i = 4 ∨ i = 5 ∨ i = 6 ∨ i = 7 := by omega
  rcases this with h | h | h | h | h | h | h | h <;> subst h <;> rfl
theorem byt_l8 (b : Nat → Int) (hb : ∀ i, i < 8 → 0 ≤ b i ∧ b i ≤ 255) (i : Nat) (h : i < 8) : byt (strOfNums (l8 b)) i = b i := by
  have e : (l8 b)[i]'(by show i < 8; omega) = b i := by
    have : i = 0 ∨ i = 1 ∨ i = 2 ∨ i = 3 ∨ i = 4 ∨ i = 5 ∨ i = 6 ∨ i = 7 := by omega
    rcases this with h | h | h | h | h | h | h | h <;> subst h <;> rfl
  rw [byt_list _ i (by show i < 8; omega) (by rw [e]; exact hb i h), e]
theorem let_l8 (b : Nat → Int) (h : Dig8 b) : letR (strOfNums (l8 b)) (.tuple #[.string (strOfNums [ltr b]), .int .i64 0]) := by
  have e : ∀ i, i < 8 → byt (strOfNums (l8 b)) i = b i := fun i hi => byt_l8 b (fun j hj => by have := h j hj; omega) i hi
  exact .inl ⟨by rw [strOfNums_size]; rfl, dig_congr _ _ e h, by rw [ltr_congr _ _ e]⟩
theorem twin_pe (b c : Nat → Int) (hb : Dig8 b) (hc : Dig8 c) (hne : lsum c % 23 ≠ lsum b % 23) : pe (strOfNums (l8 c ++ [ltr b])) = 24 := by
  have hl := ltr_bd b
  have e8 : l8 c ++ [ltr b] = [upd c 8 (ltr b) 0, upd c 8 (ltr b) 1, upd c 8 (ltr b) 2, upd c 8 (ltr b) 3, upd c 8 (ltr b) 4, upd c 8 (ltr b) 5, upd c 8 (ltr b) 6, upd c 8 (ltr b) 7, upd c 8 (ltr b) 8] := rfl
  have hbd : ∀ j, j < 9 → 0 ≤ upd c 8 (ltr b) j ∧ upd c 8 (ltr b) j ≤ 255 := fun j hj => by
    unfold upd
    by_cases e : j = 8
    · rw [if_pos e]; omega
    · rw [if_neg e]; have := hc j (by omega); omega
  have e := byt_nine (upd c 8 (ltr b)) hbd
  have ec : ∀ j, j < 8 → upd c 8 (ltr b) j = c j := fun j hj => if_neg (by omega)
  rw [e8]
  refine pe_letter _ (by rw [strOfNums_size]; rfl) (dig_congr _ _ (fun j h => (e j (by omega)).trans (ec j h)) hc) (by rw [e 8 (by omega)]; exact letB_ltr _) ?_
  rw [e 8 (by omega), ltr_congr _ _ (fun j h => (e j (by omega)).trans (ec j h))]
  exact ltr_ne _ _ hne

attribute [local go_sem] str_app strOfNums_size

set_option maxHeartbeats 2000000 in
theorem twins_any (n a d : Int) (hn : I64 n) (ha : I64 a) (hd : I64 d) (w : World) :
    Calls Try.prog 8 #[.int .i64 n, .int .i64 a, .int .i64 d] w fun e w' => e = .returned (.bool true) ∧ Below w.heap.size w w' := by
  have K1 := Lib.hid (cut_any a 7 (by omega) (by omega) ha.1 ha.2)
  have K2 := Lib.hid (cut_any d 10 (by omega) (by omega) hd.1 hd.2)
  have K3 := Lib.hid (number_any n hn.1 hn.2)
  have a0 := Int.emod_nonneg a (show (7 : Int) ≠ 0 by omega)
  have a1 := Int.emod_lt_of_pos a (show (0 : Int) < 7 by omega)
  have d0 := Int.emod_nonneg d (show (10 : Int) ≠ 0 by omega)
  have d1 := Int.emod_lt_of_pos d (show (0 : Int) < 10 by omega)
  generalize d % 10 = v at *
  obtain ⟨p, hp⟩ := Int.eq_ofNat_of_zero_le a0
  rw [hp] at a0 a1 K1
  have hsz := fmt_size (n % 100000000)
  have hD0 : Dig8 (byt (fmtS (n % 100000000))) := dig_congr _ _ (fun i h => byt_fmt _ i h) (dig_fb _)
  generalize fmtS (n % 100000000) = x at *
  have hxp := hD0 p (by omega)
  have x0 := hxp.1
  have x1 := hxp.2
  have HD1 := Lib.hid (upd_dig (byt x) (p + 1) (byt x p) hxp hD0)
  clear hn ha hd hp hxp
  go_enter Try.func8, Try.ntmps8
  go_wp2_with fail
  refine (K1.out _).mono ?_
  rintro e w1 ⟨rfl, rfl⟩
  go_wp2_with fail
  refine (K2.out _).mono ?_
  rintro e w1 ⟨rfl, rfl⟩
  go_wp2_with fail
  refine (K3.out _).mono ?_
  rintro e w1 ⟨rfl, hb1⟩
  obtain ⟨cap, w2, hcv, hb2, hl2, hcap, hCF⟩ := bytes_of w1 x
  rw [hsz] at hcv hcap hCF
  have hc2 : Below w.heap.size w w2 := bl_trans hb1 hb2
  have hg : w.heap.size ≤ w1.heap.size := hb1.size
  obtain ⟨p1, p2⟩ := hCF p (by omega)
  obtain ⟨q1, q2⟩ := hCF (p + 1) (by omega)
  have hF1 : CellsF (w2.setCell ⟨w1.heap.size, p + 1, none⟩ (.int .u8 (byt x p))) w1.heap.size 9 (upd (byt x) (p + 1) (byt x p)) := hCF.set (p + 1) (byt x p)
  have hcv8 := conv8 _ w1.heap.size cap 9 _ (by omega) hF1
  have hcap8 : (8 : Int) ≤ (cap : Int) := by omega
  have HF1 := Lib.hid hF1
  have hc3 : Below w.heap.size w (w2.setCell ⟨w1.heap.size, p + 1, none⟩ (.int .u8 (byt x p))) := hc2.setCell hg _
  clear hF1 hCF hb2 hD0
  go_wp2_with fail
  refine (letter_string (strOfNums (l8 (upd (byt x) (p + 1) (byt x p)))) (by rw [strOfNums_size]; show 8 ≤ maxLen; decide) _ (let_l8 _ HD1.out) _).mono ?_
  rintro e w4 ⟨rfl, hb4⟩
  have hF4 := HF1.out.below hb4 (by simp; exact hl2)
  have hc4 : Below w.heap.size w w4 := bl_trans hc3 hb4
  clear hb4 hcv hcv8 p1 p2 q1 q2
  have e4 : upd (byt x) (p + 1) (byt x p) p = byt x p := if_neg (by omega)
  have e5 : upd (byt x) (p + 1) (byt x p) (p + 1) = byt x p := if_pos rfl
  obtain ⟨p1, p2⟩ := hF4 p (by omega)
  obtain ⟨q1, q2⟩ := hF4 (p + 1) (by omega)
  rw [e4] at p1
  rw [e5] at q1
  by_cases hv : byt x p - 48 = v
  · have hv' : (byt x p - 48 == v) = true := by simpa using hv
    clear hv e4 e5 hF4
    go_wp2_with fail
    refine (awake_any _).mono ?_
    rintro e w5 ⟨rfl, hb5⟩
    have hc5 : Below w.heap.size w w5 := bl_trans hc4 hb5
    go_wp2
    go_ret
    exact ⟨rfl, hc5⟩
  · have hv' : (byt x p - 48 == v) = false := by simpa using hv
    have hne := twin_ne (upd (byt x) (p + 1) (byt x p)) p (by omega) (48 + v) (by omega) HD1.out (by rw [e4, e5]) (by rw [e4]; omega)
    have hpe := twin_pe _ _ HD1.out (upd_dig _ (p + 1) (48 + v) (by omega) (upd_dig _ p (48 + v) (by omega) HD1.out)) hne
    have hF5 : CellsF ((w4.setCell ⟨w1.heap.size, p, none⟩ (.int .u8 (48 + v))).setCell ⟨w1.heap.size, p + 1, none⟩ (.int .u8 (48 + v))) w1.heap.size 9 (upd (upd (upd (byt x) (p + 1) (byt x p)) p (48 + v)) (p + 1) (48 + v)) := (hF4.set p (48 + v)).set (p + 1) (48 + v)
    have hcv8 := conv8 _ w1.heap.size cap 9 _ (by omega) hF5
    have htz : (strOfNums (l8 (upd (upd (upd (byt x) (p + 1) (byt x p)) p (48 + v)) (p + 1) (48 + v)) ++ [ltr (upd (byt x) (p + 1) (byt x p))])).size ≤ maxLen := by
      rw [strOfNums_size]; show 9 ≤ maxLen; decide
    have PP := parse_any _ htz
    rw [hpe] at PP
    have HP := Lib.hid PP
    have hc5 : Below w.heap.size w ((w4.setCell ⟨w1.heap.size, p, none⟩ (.int .u8 (48 + v))).setCell ⟨w1.heap.size, p + 1, none⟩ (.int .u8 (48 + v))) := (hc4.setCell hg _).setCell hg _
    clear PP hpe htz hne hF4 hF5 hv e4 e5
    go_wp2_with fail
    refine (HP.out _).mono ?_
    rintro e w6 ⟨rfl, hb6⟩
    have hc6 : Below w.heap.size w w6 := bl_trans hc5 hb6
    clear hb6
    go_wp2_with fail
    refine (awake_any _).mono ?_
    rintro e w7 ⟨rfl, hb7⟩
    have hc7 : Below w.heap.size w w7 := bl_trans (by (repeat (first | with_reducible exact Below.refl _ _ | with_reducible refine bl_drewN ?_ _ | with_reducible refine Below.drew ?_ | with_reducible refine bl_alloc ?_ _ | with_reducible refine Below.alloc ?_ (by first | omega | (simp; done) | (simp; omega)) _ | with_reducible refine Below.setCell ?_ (by first | omega | (simp; done) | (simp; omega)) _ | with_reducible assumption))) hb7
    go_wp2
    go_ret
    exact ⟨rfl, hc7⟩
end Go.Proofs.Ytpdekglmmgecmaa.Id
