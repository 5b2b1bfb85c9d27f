/- Walks: Fill, of the program and of the reference. -/
import Derived.Test.YtpdekglmmgecmaaUC
import Derived.WalkKit
import Derived.WalkSpells
import Derived.WalkLawsBesides
import Derived.Deep.QuietTactic
import Derived.BigQuiet
import Derived.Deep.Draws
import Derived.Deep.AppendLies
import Derived.Laws.OwnMore
import Derived.Laws.BytesArg
import Derived.Lib.Hide
import Derived.Deep.LoopGhost
import Derived.Deep.CutBlock
namespace Go.Proofs.Ytpdekglmmgecmaa.Id
open Go.RowKit
open Go.Proofs.Ytpdekglmmgecmaa.Mw (Bk RdE)
set_option linter.unusedSimpArgs false
set_option linter.unusedVariables false
set_option linter.unusedSimpArgs false

/-- One place alone is a question mark, and the others fit. -/
def Qm (b : Nat → Int) (i : Nat) : Prop := i < 9 ∧ b i = 63 ∧ Fit1 b i
/-- What Fill gives. -/
def FillR (b : Nat → Int) (l : List ByteArray) : Prop := (∃ i, Qm b i ∧ l = rp b i (cnt i)) ∨ ((¬ ∃ i, Qm b i) ∧ l = [])
theorem unfit63 (i : Nat) (hi : i < 9) : fitB i 63 = false := by
  unfold fitB
  by_cases e : i < 8
  · rw [if_pos (by omega)]; decide
  · rw [if_neg (by omega)]; decide
theorem fillR_ex (b : Nat → Int) : ∃ l, FillR b l := by
  by_cases h : ∃ i, Qm b i
  · obtain ⟨i, hi⟩ := h; exact ⟨_, .inl ⟨i, hi, rfl⟩⟩
  · exact ⟨_, .inr ⟨h, rfl⟩⟩
theorem qm_one {b : Nat → Int} {i j : Nat} (hi : Qm b i) (hj : Qm b j) : i = j := by
  by_cases e : i = j
  · exact e
  · have := hj.2.2 i hi.1 e
    rw [hi.2.1, unfit63 i hi.1] at this
    cases this
theorem fillR_one {b : Nat → Int} {l m : List ByteArray} (hl : FillR b l) (hm : FillR b m) : l = m := by
  rcases hl with ⟨i, hi, rfl⟩ | ⟨h, rfl⟩
  · rcases hm with ⟨j, hj, rfl⟩ | ⟨h, _⟩
    · rw [qm_one hi hj]
    · exact absurd ⟨i, hi⟩ h
  · rcases hm with ⟨j, hj, _⟩ | ⟨_, rfl⟩
    · exact absurd ⟨j, hj⟩ h
    · rfl
/-- After k places. -/
def FP (b : Nat → Int) (k : Nat) (p : Int) : Prop := (p = -1 ∧ ∀ j : Nat, j < k → fitB j (b j) = true) ∨ ∃ i : Nat, i < k ∧ p = (i : Int) ∧ b i = 63 ∧ ∀ j : Nat, j < k → j ≠ i → fitB j (b j) = true
theorem fp_0 (b : Nat → Int) : FP b 0 (-1) := .inl ⟨rfl, fun j hj => absurd hj (by omega)⟩
theorem fp_q {b : Nat → Int} {k : Nat} {p : Int} (h : FP b k p) (h1 : b k = 63) (h2 : p < 0) : FP b (k + 1) k := by
  rcases h with ⟨_, h⟩ | ⟨i, _, h, _⟩
  · exact .inr ⟨k, by omega, rfl, h1, fun j hj hn => h j (by omega)⟩
  · omega
theorem fp_fit {b : Nat → Int} {k : Nat} {p : Int} (h : FP b k p) (h1 : fitB k (b k) = true) : FP b (k + 1) p := by
  rcases h with ⟨hp, h⟩ | ⟨i, hi, hp, h63, h⟩
  · refine .inl ⟨hp, fun j hj => ?_⟩
    by_cases e : j = k
    · subst e; exact h1
    · exact h j (by omega)
  · refine .inr ⟨i, by omega, hp, h63, fun j hj hn => ?_⟩
    by_cases e : j = k
    · subst e; exact h1
    · exact h j (by omega) hn
theorem fp_no {b : Nat → Int} {k : Nat} {p : Int} (h : FP b k p) (hk : k < 9) (h1 : ¬ (b k = 63 ∧ p < 0)) (h2 : fitB k (b k) = false) : FillR b [] := by
  refine .inr ⟨?_, rfl⟩
  rintro ⟨q, hq⟩
  by_cases e : k = q
  · subst e
    rcases h with ⟨hp, _⟩ | ⟨i, hi, hp, h63, _⟩
    · exact h1 ⟨hq.2.1, by omega⟩
    · have := hq.2.2 i (by omega) (by omega)
      rw [h63, unfit63 i (by omega)] at this
      cases this
  · have := hq.2.2 k hk e
    rw [h2] at this
    cases this
theorem fp_none {b : Nat → Int} (h : ∀ j : Nat, j < 9 → fitB j (b j) = true) : FillR b [] := by
  refine .inr ⟨?_, rfl⟩
  rintro ⟨q, hq⟩
  have := h q hq.1
  rw [hq.2.1, unfit63 q hq.1] at this
  cases this
theorem fp_one {b : Nat → Int} {i : Nat} (hi : i < 9) (h63 : b i = 63) (h : ∀ j : Nat, j < 9 → j ≠ i → fitB j (b j) = true) : FillR b (rp b i (cnt i)) := .inl ⟨i, ⟨hi, h63, h⟩, rfl⟩
theorem rets_nil {w w' : World} (hb : Below w.heap.size w w') : RetS [] w (.returned (.slice none 0 0)) w' :=
  ⟨none, 0, rfl, RdE.nil _ _ _, fun a ha => (by cases ha), fun a ha => (by cases ha), hb⟩
theorem rets_trans {l : List ByteArray} {w w1 w2 : World} {e : Ending} (hb : Below w.heap.size w w1) (h : RetS l w1 e w2) : RetS l w e w2 := by
  obtain ⟨A, c, he, hr, hA, hf, hb2⟩ := h
  exact ⟨A, c, he, hr, fun a ha => by have := hA a ha; have := hb.size; omega, hf, Mw.bl_trans hb hb2⟩

set_option maxHeartbeats 2000000 in
theorem fill_no (s : ByteArray) (hs : s.size ≤ maxLen) (hl : s.size ≠ 9) (w : World) :
    Calls Try.prog 24 #[.string s] w (RetS [] w) := by
  go_enter Try.func24, Try.ntmps24
  go_wp2_with fail
  refine (wordOf_no s hs hl _).mono ?_
  rintro e w1 ⟨rfl, hb1⟩
  go_wp2_with fail
  go_ret
  exact rets_nil (by (repeat (first | with_reducible exact Below.refl _ _ | with_reducible refine bl_drewN ?_ _ | with_reducible refine Below.drew ?_ | with_reducible refine bl_alloc ?_ _ | with_reducible refine Below.alloc ?_ (by first | omega | (simp; done) | (simp; omega)) _ | with_reducible refine Below.setCell ?_ (by first | omega | (simp; done) | (simp; omega)) _ | with_reducible assumption)))
set_option maxHeartbeats 2000000 in
set_option maxRecDepth 100000 in
theorem fill_9 (s : ByteArray) (hl : s.size = 9) (l : List ByteArray) (hR : FillR (byt s) l) (w : World) :
    Calls Try.prog 24 #[.string s] w (RetS l w) := by
  have HR := Lib.hid hR
  have H1 := Lib.hid (wordOf_yes s hl w)
  have Hb := Lib.hid (byt_bd s)
  clear hR hl
  obtain ⟨b, hb⟩ : ∃ b, byt s = b := ⟨_, rfl⟩
  rw [hb] at HR H1 Hb
  clear hb
  go_enter Try.func24, Try.ntmps24
  go_wp2_with fail
  refine H1.out.mono ?_
  rintro e w1 ⟨rfl, hb1⟩
  have B1 : Bk (w1.alloc (.cells (wc b) 43)) w1.heap.size 43 (wc b) := Bk.new _ _ _
  have hb2 : Below w.heap.size w (w1.alloc (.cells (wc b) 43)) := Mw.bl_alloc hb1 _
  go_upto_region 2 with fail
  generalize w1.alloc (.cells (wc b) 43) = V at B1 hb2 ⊢
  have hg := B1.lt
  clear hb1 H1
  obtain ⟨c0, c1, c2, c3, c4, c5, c6, c7, c8⟩ := bk9 B1
  go_wp2_with fail
  clear c0 c1 c2 c3 c4 c5 c6 c7 c8
  go_loop [5, 16] (fun p i => ∃ (k : Nat) (q : Int), k ≤ 9 ∧ i = .int .i64 k ∧ p = .int .i64 q ∧ -1 ≤ q ∧ q ≤ 9 ∧ Hid (FP b k q)) (fun _ i => 9 - (intOf i).toNat)
  case atStart => exact ⟨0, -1, by omega, rfl, rfl, by omega, by omega, fp_0 b⟩
  case round =>
    obtain ⟨k, q, hk, rfl, rfl, hq1, hq2, hF⟩ := hrel
    by_cases hlt : k < 9
    · have hix := ix b k hlt
      have h0 := (Hb.out k).1
      have h1 := (Hb.out k).2
      by_cases h63 : b k = 63
      · by_cases hq : q < 0
        · have z1 : (b k == 63) = true := by simp [h63]
          have HN := Lib.hid (fp_q hF.out h63 hq)
          clear h63
          go_wp2_with fail
          go_round
          case rel => exact ⟨k + 1, k, by omega, by go_num, rfl, by omega, by omega, HN⟩
          case measure => simp [intOf]; omega
        · have z1 : (b k == 63) = true := by simp [h63]
          have hf : fitB k (b k) = false := by rw [h63]; exact unfit63 k hlt
          have HN := Lib.hid (fillR_one HR.out (fp_no hF.out hlt (fun x => hq x.2) hf))
          have hq' : 0 ≤ q := by omega
          clear h63
          go_wp2_with (go_at_call 34; refine (fits_any _ _ h0 h1 _).mono ?_; rintro e w' ⟨rfl, rfl⟩)
          go_ret
          rw [HN.out]
          exact rets_nil hb2
      · have z1 : (b k == 63) = false := by simp [h63]
        cases hf : fitB k (b k)
        · have HN := Lib.hid (fillR_one HR.out (fp_no hF.out hlt (fun x => h63 x.1) hf))
          clear h63
          go_wp2_with (go_at_call 34; refine (fits_any _ _ h0 h1 _).mono ?_; rintro e w' ⟨rfl, rfl⟩)
          go_ret
          rw [HN.out]
          exact rets_nil hb2
        · have HN := Lib.hid (fp_fit hF.out hf)
          clear h63
          go_wp2_with (go_at_call 34; refine (fits_any _ _ h0 h1 _).mono ?_; rintro e w' ⟨rfl, rfl⟩)
          go_round
          case rel => exact ⟨k + 1, q, by omega, by go_num, rfl, hq1, by omega, HN⟩
          case measure => simp [intOf]; omega
    · obtain rfl : k = 9 := by omega
      rcases hF.out with ⟨rfl, hfit⟩ | ⟨i, hi, rfl, h63, hfit⟩
      · have HN := Lib.hid (fillR_one HR.out (fp_none hfit))
        clear hfit
        go_wp2_with fail
        go_ret
        rw [HN.out]
        exact rets_nil hb2
      · have HN := Lib.hid (fillR_one HR.out (fp_one hi h63 hfit))
        have hi0 : (0 : Int) ≤ i := by omega
        clear hfit h63
        obtain ⟨c0, c1, c2, c3, c4, c5, c6, c7, c8⟩ := bk9 B1
        go_wp2_with fail
        refine (replaced_any b i hi _).mono ?_
        rintro e w3 hw3
        obtain ⟨A, c, rfl, hr, hA, hf, hb3⟩ := rets_trans hb2 hw3
        go_wp2_with fail
        go_ret
        rw [HN.out]
        exact ⟨A, c, rfl, hr, hA, hf, hb3⟩
/-- What Fill gives for any text. -/
def FillS (s : ByteArray) (l : List ByteArray) : Prop := (s.size = 9 ∧ FillR (byt s) l) ∨ (s.size ≠ 9 ∧ l = [])
theorem fillS_ex (s : ByteArray) : ∃ l, FillS s l := by
  by_cases h : s.size = 9
  · obtain ⟨l, hl⟩ := fillR_ex (byt s); exact ⟨l, .inl ⟨h, hl⟩⟩
  · exact ⟨[], .inr ⟨h, rfl⟩⟩
theorem fill_any (s : ByteArray) (hs : s.size ≤ maxLen) (l : List ByteArray) (h : FillS s l) (w : World) : Calls Try.prog 24 #[.string s] w (RetS l w) := by
  rcases h with ⟨h1, h2⟩ | ⟨h1, rfl⟩
  · exact fill_9 s h1 l h2 w
  · exact fill_no s hs h1 w

/-- After k places, for the reference: the last question mark, and how many. -/
def RP (b : Nat → Int) (k : Nat) (a m : Int) : Prop := (m = 0 ∧ ∀ j : Nat, j < k → fitB j (b j) = true) ∨ (m = 1 ∧ ∃ i : Nat, i < k ∧ a = (i : Int) ∧ b i = 63 ∧ ∀ j : Nat, j < k → j ≠ i → fitB j (b j) = true) ∨ (2 ≤ m ∧ ∃ i j : Nat, i < j ∧ j < k ∧ b i = 63 ∧ b j = 63)
theorem rp_q {b : Nat → Int} {k : Nat} {a m : Int} (h : RP b k a m) (h1 : b k = 63) : RP b (k + 1) k (m + 1) := by
  rcases h with ⟨rfl, h⟩ | ⟨rfl, i, hi, _, h63, h⟩ | ⟨hm, i, j, h2, h3, h4, h5⟩
  · exact .inr (.inl ⟨rfl, k, by omega, rfl, h1, fun j hj hn => h j (by omega)⟩)
  · exact .inr (.inr ⟨by omega, i, k, hi, by omega, h63, h1⟩)
  · exact .inr (.inr ⟨by omega, i, j, h2, by omega, h4, h5⟩)
theorem rp_fit {b : Nat → Int} {k : Nat} {a m : Int} (h : RP b k a m) (h1 : fitB k (b k) = true) : RP b (k + 1) a m := by
  rcases h with ⟨rfl, h⟩ | ⟨rfl, i, hi, ha, h63, h⟩ | ⟨hm, i, j, h2, h3, h4, h5⟩
  · refine .inl ⟨rfl, fun j hj => ?_⟩
    by_cases e : j = k
    · subst e; exact h1
    · exact h j (by omega)
  · refine .inr (.inl ⟨rfl, i, by omega, ha, h63, fun j hj hn => ?_⟩)
    by_cases e : j = k
    · subst e; exact h1
    · exact h j (by omega) hn
  · exact .inr (.inr ⟨hm, i, j, h2, by omega, h4, h5⟩)
theorem rp_bad {b : Nat → Int} {k : Nat} (hk : k < 9) (h1 : ¬ b k = 63) (h2 : fitB k (b k) = false) : FillR b [] := by
  refine .inr ⟨?_, rfl⟩
  rintro ⟨q, hq⟩
  by_cases e : k = q
  · subst e; exact h1 hq.2.1
  · have := hq.2.2 k hk e
    rw [h2] at this
    cases this
theorem rp_two {b : Nat → Int} {i j : Nat} (h1 : i < j) (h2 : j < 9) (h3 : b i = 63) (h4 : b j = 63) : FillR b [] := by
  refine .inr ⟨?_, rfl⟩
  rintro ⟨q, hq⟩
  by_cases e : i = q
  · have := hq.2.2 j h2 (by omega)
    rw [h4, unfit63 j h2] at this
    cases this
  · have := hq.2.2 i (by omega) e
    rw [h3, unfit63 i (by omega)] at this
    cases this
set_option maxHeartbeats 2000000 in
theorem rfill_no (s : ByteArray) (hs : s.size ≤ maxLen) (hl : s.size ≠ 9) (w : World) :
    Calls Try.prog 25 #[.string s] w (RetS [] w) := by
  unfold maxLen at hs
  have t1 : ((s.size : Int) != 9) = true := by rw [bne_iff_ne]; omega
  have t2 : (s.size != 9) = true := by rw [bne_iff_ne]; exact hl
  go_enter Try.func25, Try.ntmps25
  go_wp2_with fail
  go_ret
  exact rets_nil (by (repeat (first | with_reducible exact Below.refl _ _ | with_reducible refine bl_drewN ?_ _ | with_reducible refine Below.drew ?_ | with_reducible refine bl_alloc ?_ _ | with_reducible refine Below.alloc ?_ (by first | omega | (simp; done) | (simp; omega)) _ | with_reducible refine Below.setCell ?_ (by first | omega | (simp; done) | (simp; omega)) _ | with_reducible assumption)))
set_option maxHeartbeats 2000000 in
set_option maxRecDepth 100000 in
theorem rfill_9 (s : ByteArray) (hl : s.size = 9) (l : List ByteArray) (hR : FillR (byt s) l) (w : World) :
    Calls Try.prog 25 #[.string s] w (RetS l w) := by
  have HR := Lib.hid hR
  have Hl := Lib.hid hl
  have hby : ∀ (i : Nat) (h : i < s.size), ((s[i]'h).toNat : Int) = byt s i := fun i h => (byt_at s i h).symm
  clear hR
  go_enter Try.func25, Try.ntmps25
  go_wp2_with fail
  go_loop [3, 4, 5] (fun a m i => ∃ (k : Nat) (q n : Int), k ≤ 9 ∧ i = .int .i64 k ∧ a = .int .i64 q ∧ m = .int .i64 n ∧ 0 ≤ q ∧ q ≤ 9 ∧ 0 ≤ n ∧ n ≤ k ∧ Hid (RP (byt s) k q n)) (fun _ _ i => 9 - (intOf i).toNat)
  case atStart => exact ⟨0, 0, 0, by omega, rfl, rfl, rfl, by omega, by omega, by omega, by omega, .inl ⟨rfl, fun j hj => absurd hj (by omega)⟩⟩
  case round =>
    obtain ⟨k, q, n, hk, rfl, rfl, rfl, hq1, hq2, hn1, hn2, hF⟩ := hrel
    by_cases hlt : k < 9
    · by_cases h63 : byt s k = 63
      · have z1 : (byt s k == 63) = true := by simp [h63]
        have HN := Lib.hid (rp_q hF.out h63)
        clear h63
        go_wp2_with fail
        go_round
        case rel => exact ⟨k + 1, k, n + 1, by omega, by go_num, rfl, rfl, by omega, by omega, by omega, by omega, HN⟩
        case measure => simp [intOf]; omega
      · have z1 : (byt s k == 63) = false := by simp [h63]
        cases hf : fitB k (byt s k)
        · have HN := Lib.hid (fillR_one HR.out (rp_bad hlt h63 hf))
          clear h63
          go_wp2_with (go_at_call 36; refine (place_any _ _ _).mono ?_; rintro e w' ⟨rfl, rfl⟩)
          go_ret
          rw [HN.out]
          exact rets_nil (by (repeat (first | with_reducible exact Below.refl _ _ | with_reducible refine bl_drewN ?_ _ | with_reducible refine Below.drew ?_ | with_reducible refine bl_alloc ?_ _ | with_reducible refine Below.alloc ?_ (by first | omega | (simp; done) | (simp; omega)) _ | with_reducible refine Below.setCell ?_ (by first | omega | (simp; done) | (simp; omega)) _ | with_reducible assumption)))
        · have HN := Lib.hid (rp_fit hF.out hf)
          clear h63
          go_wp2_with (go_at_call 36; refine (place_any _ _ _).mono ?_; rintro e w' ⟨rfl, rfl⟩)
          go_round
          case rel => exact ⟨k + 1, q, n, by omega, by go_num, rfl, rfl, hq1, by omega, hn1, by omega, HN⟩
          case measure => simp [intOf]; omega
    · obtain rfl : k = 9 := by omega
      rcases hF.out with ⟨rfl, hfit⟩ | ⟨rfl, i, hi, rfl, h63, hfit⟩ | ⟨hm, i, j, h2, h3, h4, h5⟩
      · have HN := Lib.hid (fillR_one HR.out (fp_none hfit))
        clear hfit
        go_wp2_with fail
        go_ret
        rw [HN.out]
        exact rets_nil (by (repeat (first | with_reducible exact Below.refl _ _ | with_reducible refine bl_drewN ?_ _ | with_reducible refine Below.drew ?_ | with_reducible refine bl_alloc ?_ _ | with_reducible refine Below.alloc ?_ (by first | omega | (simp; done) | (simp; omega)) _ | with_reducible refine Below.setCell ?_ (by first | omega | (simp; done) | (simp; omega)) _ | with_reducible assumption)))
      · have HN := Lib.hid (fillR_one HR.out (fp_one hi h63 hfit))
        have HW := Lib.hid (wt_fill hi (bnd_byt s) hfit (by rw [h63]; exact unfit63 i hi))
        clear hfit h63
        go_wp2_with fail
        refine (with_any s Hl.out i hi _).mono ?_
        rintro e w3 ⟨A, c, rfl, hr, hA, hf, hb3⟩
        go_wp2_with fail
        go_ret
        rw [HN.out, ← HW.out]
        exact ⟨A, c, rfl, hr, hA, hf, hb3⟩
      · have HN := Lib.hid (fillR_one HR.out (rp_two h2 h3 h4 h5))
        have z1 : (n != 1) = true := by rw [bne_iff_ne]; omega
        clear h4 h5
        go_wp2_with fail
        go_ret
        rw [HN.out]
        exact rets_nil (by (repeat (first | with_reducible exact Below.refl _ _ | with_reducible refine bl_drewN ?_ _ | with_reducible refine Below.drew ?_ | with_reducible refine bl_alloc ?_ _ | with_reducible refine Below.alloc ?_ (by first | omega | (simp; done) | (simp; omega)) _ | with_reducible refine Below.setCell ?_ (by first | omega | (simp; done) | (simp; omega)) _ | with_reducible assumption)))
theorem rfill_any (s : ByteArray) (hs : s.size ≤ maxLen) (l : List ByteArray) (h : FillS s l) (w : World) : Calls Try.prog 25 #[.string s] w (RetS l w) := by
  rcases h with ⟨h1, h2⟩ | ⟨h1, rfl⟩
  · exact rfill_9 s h1 l h2 w
  · exact rfill_no s hs h1 w
end Go.Proofs.Ytpdekglmmgecmaa.Id
